/- What the Go functions that the laws reach compute, and that their calls come to just that: told by a program of this session (aprint.py). No condition. -/
import Derived.Test.YtnkgcjdlfenepaaP0
import Derived.Test.YtnkgcjdlfenepaaP1
import Derived.Test.YtnkgcjdlfenepaaP2
import Derived.Test.YtnkgcjdlfenepaaP3
import Derived.Test.YtnkgcjdlfenepaaHPass
import Derived.Test.YtnkgcjdlfenepaaCut
namespace Go.Proofs.Ytnkgcjdlfenepaa.P
open Go.RowKit Go.Proofs.YtnkgcjdlfenepaaW.PrintWords Go.Proofs.YtnkgcjdlfenepaaW.PrintLast Go.Proofs.YtnkgcjdlfenepaaW.PrintMore
attribute [local go_sem] max2_int min2_int max_two min_two max_three min_three max_four min_four
set_option linter.unusedVariables false
set_option linter.unusedSimpArgs false
mutual
def spec_ClockLater.j0:Nat → Int → Bool → Int → Int → List (S29) → Option (Int × Int × (List (S29)) × Bool)
 | 0,_,_,_,_,_=>none
 | k + 1,x1,x17,x728000,x728001,x728002=>if x17 = true then (some (0,0,([]:List (S29)),false)) else ((spec_l17Copy.f k x728000 x728001 x728002).bind fun bt731=>(spec_ClockLater.l0 k x1 0 bt731.1 bt731.2.1 bt731.2.2))
def spec_ClockLater.l0:Nat → Int → Int → Int → Int → List (S29) → Option (Int × Int × (List (S29)) × Bool)
 | 0,_,_,_,_,_=>none
 | k + 1,x1,x7,x737000,x737001,x737002=>if x7 < x1 then ((spec_l17Pass.f k x737000 x737001 x737002).bind fun bt737=>(if bt737.2.2.2 = true then (spec_ClockLater.l0 k x1 (wrap64 (x7 + 1)) bt737.1 bt737.2.1 bt737.2.2.1) else (some (0,0,([]:List (S29)),false)))) else (some (x737000,x737001,x737002,true))
end
def spec_ClockLater.f (k:Nat) (a0_0:Int) (a0_1:Int) (l0_2:List (S29)) (a1:Int):Option (Int × Int × (List (S29)) × Bool):=(spec_ClockOk.f k a0_0 a0_1 l0_2).bind fun t729=>(if t729 = true then ((spec_l6In.f a1 0 100).bind fun t730=>(spec_ClockLater.j0 k a1 (!t730) a0_0 a0_1 l0_2)) else (spec_ClockLater.j0 k a1 true a0_0 a0_1 l0_2))
theorem spec_ClockLater.mono_l:∀ k,(∀ y0 y1 y2 y3 y4,LeO (spec_ClockLater.j0 k y0 y1 y2 y3 y4) (spec_ClockLater.j0 (k + 1) y0 y1 y2 y3 y4))∧(∀ y0 y1 y2 y3 y4,LeO (spec_ClockLater.l0 k y0 y1 y2 y3 y4) (spec_ClockLater.l0 (k + 1) y0 y1 y2 y3 y4))
 | 0=>⟨fun _ _ _ _ _ r h=>by simp [spec_ClockLater.j0] at h,fun _ _ _ _ _ r h=>by simp [spec_ClockLater.l0] at h⟩
 | k + 1=>by
  obtain ⟨ih0,ih1⟩:=spec_ClockLater.mono_l k
  refine ⟨?_,?_⟩
  ·intro y0 y1 y2 y3 y4
   unfold spec_ClockLater.j0
   repeat' first
   | (with_reducible exact ih0 _ _ _ _ _)
   | (with_reducible exact ih1 _ _ _ _ _)
   | (with_reducible exact spec_ClockOk.mono _ _ _ _)
   | (with_reducible exact spec_l17Copy.mono _ _ _ _)
   | (with_reducible exact spec_l17Pass.mono _ _ _ _)
   | (with_reducible exact LeO.refl _)
   | (with_reducible exact LeO.none _)
   | (with_reducible refine LeO.ite ?_ ?_)
   | (with_reducible refine LeO.bind ?_ (fun _=>?_))
   | exact ih0 _ _ _ _ _
   | exact ih1 _ _ _ _ _
   | exact spec_ClockOk.mono _ _ _ _
   | exact spec_l17Copy.mono _ _ _ _
   | exact spec_l17Pass.mono _ _ _ _
   | exact LeO.none _
   | refine LeO.ite ?_ ?_
   | refine LeO.bind ?_ (fun _=>?_)
  ·intro y0 y1 y2 y3 y4
   unfold spec_ClockLater.l0
   repeat' first
   | (with_reducible exact ih0 _ _ _ _ _)
   | (with_reducible exact ih1 _ _ _ _ _)
   | (with_reducible exact spec_ClockOk.mono _ _ _ _)
   | (with_reducible exact spec_l17Copy.mono _ _ _ _)
   | (with_reducible exact spec_l17Pass.mono _ _ _ _)
   | (with_reducible exact LeO.refl _)
   | (with_reducible exact LeO.none _)
   | (with_reducible refine LeO.ite ?_ ?_)
   | (with_reducible refine LeO.bind ?_ (fun _=>?_))
   | exact ih0 _ _ _ _ _
   | exact ih1 _ _ _ _ _
   | exact spec_ClockOk.mono _ _ _ _
   | exact spec_l17Copy.mono _ _ _ _
   | exact spec_l17Pass.mono _ _ _ _
   | exact LeO.none _
   | refine LeO.ite ?_ ?_
   | refine LeO.bind ?_ (fun _=>?_)
theorem spec_ClockLater.mono:∀ a0 a1 a2 a3 k,LeO (spec_ClockLater.f k a0 a1 a2 a3) (spec_ClockLater.f (k + 1) a0 a1 a2 a3):=by
 intro a0 a1 a2 a3 k
 obtain ⟨ih0,ih1⟩:=spec_ClockLater.mono_l k
 unfold spec_ClockLater.f
 repeat' first
   | (with_reducible exact ih0 _ _ _ _ _)
   | (with_reducible exact ih1 _ _ _ _ _)
   | (with_reducible exact spec_ClockOk.mono _ _ _ _)
   | (with_reducible exact spec_l17Copy.mono _ _ _ _)
   | (with_reducible exact spec_l17Pass.mono _ _ _ _)
   | (with_reducible exact LeO.refl _)
   | (with_reducible exact LeO.none _)
   | (with_reducible refine LeO.ite ?_ ?_)
   | (with_reducible refine LeO.bind ?_ (fun _=>?_))
   | exact ih0 _ _ _ _ _
   | exact ih1 _ _ _ _ _
   | exact spec_ClockOk.mono _ _ _ _
   | exact spec_l17Copy.mono _ _ _ _
   | exact spec_l17Pass.mono _ _ _ _
   | exact LeO.none _
   | refine LeO.ite ?_ ?_
   | refine LeO.bind ?_ (fun _=>?_)
set_option maxHeartbeats 8000000 in
set_option maxRecDepth 100000 in
theorem spec_ClockLater.calls (k:Nat) (a0_0:Int) (a0_1:Int) (A0_2:Option Addr) (c0_2:Nat) (l0_2:List (S29)) (a1:Int) (r1:Int) (r2:Int) (r3:List (S29)) (r4:Bool) (w:World) (hr0_2:Kd.C k29 w A0_2 l0_2.length l0_2) (hc0_2:l0_2.length ≤ c0_2) (h:spec_ClockLater.f k a0_0 a0_1 l0_2 a1 = some (r1,r2,r3,r4)) :
  Calls Try.prog 36 #[.agg #[.int .i64 a0_0,.int .i64 a0_1,.slice A0_2 l0_2.length c0_2],.int .i64 a1] w fun e w'=>∃ v2_:Value,e = .returned (.tuple #[.agg #[.int .i64 r1,.int .i64 r2,v2_],.bool r4])∧Kd.N k29 29 w' w.heap.size (fun k_=>(w.heap.size ≤ k_)) v2_ r3∧Below w.heap.size w w':=by
 have hu29:=Try.underlying29
 have ZA:=aQ hr0_2
 have ZB:=aQ hc0_2
 clear hr0_2 hc0_2
 have HB:=aQ (Below.refl w.heap.size w)
 have H:=h
 clear h
 have ZS:=aQ H
 clear H
 go_enter Try.func36,Try.ntmps36
 go_upto_region 1 with (first | ((with_reducible refine gate_dst (N:=2) rfl ?_);refine box1 (N:=2) (cs:=#[.int .i64 a0_0,.int .i64 a0_1,.slice A0_2 l0_2.length c0_2]) (t:=29) ?_;intro Zl hg w4 hbox hb;have Zb:=aQ (hbox);have ZV:=aQ (gB:w.heap.size ≤ Zl);have Xx:=ZV;replace HB:=aQ (below_step bB hb);clear hb hbox hg) | ((with_reducible refine gate_dst (N:=4) rfl ?_);refine box1 (N:=4) (cs:=#[.int .i64 0,.int .i64 0,.slice none 0 0]) (t:=29) ?_;intro Zh hg w5 hbox hb;have Zc:=aQ (hbox);have ZW:=aQ (gB:w.heap.size ≤ Zh);have Xy:=ZW;replace HB:=aQ (below_step bB hb);have Zj:=aQ ((by rw [hg];exact Nat.ne_of_lt (blk_lt (nB Zb.out)):Zl ≠ Zh));have Zk:=aQ Zj.out.symm;replace Zb:=aQ (blk_below (nB Zb.out) hb);clear hb hbox hg))
 (try simp only [Act.put,List.setIfInBounds_toArray,List.set_cons_zero,List.set_cons_succ])
 go_cut [17] (fun v17 wc=>∃ (kq:Nat) (x17_2:Bool),v17 = .bool x17_2∧Aside0 (spec_ClockLater.j0 kq a1 x17_2 a0_0 a0_1 l0_2 = some (r1,r2,r3,r4))∧Aside0 (kq ≤ k)∧Aside0 (wc.heap[Zl]? = some (.cells #[.int .i64 a0_0,.int .i64 a0_1,(.slice A0_2 l0_2.length c0_2)] 29 (0,0)))∧Aside0 (wc.heap[Zh]? = some (.cells #[.int .i64 0,.int .i64 0,(.slice none 0 0)] 29 (0,0)))∧Aside0 (Below w.heap.size w wc))
 case first =>
  have H:=ZS.out
  clear ZS
  obtain ⟨t729,A6,H⟩:=bQ H
  (try dsimp only at H)
  by_cases c7:t729 = true
  ·subst c7
   have H1:((spec_l6In.f a1 0 100).bind fun t730=>(spec_ClockLater.j0 k a1 (!t730) a0_0 a0_1 l0_2)) = some (r1,r2,r3,r4):=by rw [if_pos rfl] at H;exact H
   clear H
   have H:=H1
   clear H1
   obtain ⟨t730,A8,H⟩:=bQ H
   (try dsimp only at H)
   have H':=aQ H
   clear H
   have Wm:=Zj.out
   have Wn:=Zk.out
   obtain ⟨Yj,Yk,Yl,Ym,Yn,Yo⟩:=cz3 Zb.out
   go_wp2_with (first | ((with_reducible refine gate_callee (f:=14) rfl ?_);refine goesL_ (some 11) rfl rfl Try.func14 (by kernel_rfl) rfl #[.agg #[.int .i64 a0_0,.int .i64 a0_1,.slice A0_2 l0_2.length c0_2]] rfl mP ?_;(with_reducible refine (spec_ClockOk.calls k a0_0 a0_1 _ _ l0_2 true _ ?Zp ?Zq A6.out).mono ?_);(case Zp=>repeat (first | exact (Kd.C_below ZA.out HB.out) | (with_reducible refine Kd.C_alloc ?_ _) | (with_reducible refine Kd.C_drewN ?_ _) | (with_reducible refine Kd.C_drew ?_)));(case Zq=>exact ZB.out);rintro e w11 ⟨rfl,hb⟩;refine ⟨_,rfl,?_⟩;replace Zb:=aQ (blk_below (nB Zb.out) hb);replace Zc:=aQ (blk_below (nB Zc.out) hb);replace HB:=aQ (below_step bB hb);(try clear hb)) | (go_at_call 39;(with_reducible refine (spec_l6In.calls a1 0 100 t730 _ A8.out).mono ?_);rintro e w' ⟨rfl,⟨nd,rfl⟩⟩))
   go_meet
   case rel=>exact ⟨_,(!t730),rfl,H',⟨by first | omega | exact Nat.le_refl _⟩,⟨nB Zb.out⟩,⟨nB Zc.out⟩,⟨bB⟩⟩
  ·replace c7:=Bool.eq_false_iff.mpr c7
   subst c7
   have H1:(spec_ClockLater.j0 k a1 true a0_0 a0_1 l0_2) = some (r1,r2,r3,r4):=by rw [if_neg (show ¬ (false = true) by decide)] at H;exact H
   clear H
   have H:=H1
   clear H1
   have H':=aQ H
   clear H
   have Xz:=Zj.out
   have XA:=Zk.out
   obtain ⟨Yp,Yq,Yr,Ys,Yt,Yu⟩:=cz3 Zb.out
   go_wp2_with (first | ((with_reducible refine gate_callee (f:=14) rfl ?_);refine goesL_ (some 11) rfl rfl Try.func14 (by kernel_rfl) rfl #[.agg #[.int .i64 a0_0,.int .i64 a0_1,.slice A0_2 l0_2.length c0_2]] rfl mP ?_;(with_reducible refine (spec_ClockOk.calls k a0_0 a0_1 _ _ l0_2 false _ ?Zp ?Zq A6.out).mono ?_);(case Zp=>repeat (first | exact (Kd.C_below ZA.out HB.out) | (with_reducible refine Kd.C_alloc ?_ _) | (with_reducible refine Kd.C_drewN ?_ _) | (with_reducible refine Kd.C_drew ?_)));(case Zq=>exact ZB.out);rintro e w14 ⟨rfl,hb⟩;refine ⟨_,rfl,?_⟩;replace Zb:=aQ (blk_below (nB Zb.out) hb);replace Zc:=aQ (blk_below (nB Zc.out) hb);replace HB:=aQ (below_step bB hb);(try clear hb)))
   go_meet
   case rel=>exact ⟨_,(true),rfl,H',⟨by first | omega | exact Nat.le_refl _⟩,⟨nB Zb.out⟩,⟨nB Zc.out⟩,⟨bB⟩⟩
 case rest =>
  clear ZS
  obtain ⟨kq,x17_2,rfl,HA,HJ2,Zb,Zc,HB⟩:=hcut
  cases kq with
  | zero=>exact absurd HA.out (by simp [spec_ClockLater.j0])
  | succ kj2 =>
   have H:=HA.out
   clear HA
   simp only [spec_ClockLater.j0] at H
   by_cases c15:x17_2 = true
   ·subst c15
    have H1:(some (0,0,([]:List (S29)),false)) = some (r1,r2,r3,r4):=by rw [if_pos rfl] at H;exact H
    clear H
    have H:=H1
    clear H1
    simp only [Option.some.injEq,Prod.mk.injEq] at H
    obtain ⟨rfl,rfl,rfl,rfl⟩:=H
    have XB:=Zk.out
    have XC:=Zj.out
    obtain ⟨Yv,Yw,Yx,Yy,Yz,YA⟩:=cz3 Zc.out
    go_wp2
    refine bodyPost_ret (results_ct rfl _ _ Zh 29 #[.int .i64 0,.int .i64 0,.slice none 0 0] (0,0) _ rfl bP Try.underlying29 rfl (by kernel_rfl)) rfl ?_
    exact ⟨_,rfl,by first | exact Kd.R_nil _ _ _ _ _ | exact Kd.N_nil _ _ _ _ _ | exact Kd.V_nil _ _ _ _ _ | exact Kd.Q_nil _ _ _ _ _ | exact Kd.S_nil _ _ _ _ _,bB⟩
   ·replace c15:=Bool.eq_false_iff.mpr c15
    subst c15
    have H1:((spec_l17Copy.f kj2 a0_0 a0_1 l0_2).bind fun bt731=>(spec_ClockLater.l0 kj2 a1 0 bt731.1 bt731.2.1 bt731.2.2)) = some (r1,r2,r3,r4):=by rw [if_neg (show ¬ (false = true) by decide)] at H;exact H
    clear H
    have H:=H1
    clear H1
    obtain ⟨⟨t731,t732,t733⟩,A18,H⟩:=bQ H
    dsimp only at H
    have H':=aQ H
    clear H
    have XD:=Zj.out
    have XE:=Zk.out
    obtain ⟨ZG,ZH,ZI,ZJ,ZK,ZL⟩:=cz3 Zb.out
    go_wp2_with (first | ((with_reducible refine gate_callee (f:=52) rfl ?_);refine goesL_ (some 20) rfl rfl Try.func52 (by kernel_rfl) rfl #[.agg #[.int .i64 a0_0,.int .i64 a0_1,.slice A0_2 l0_2.length c0_2]] rfl mP ?_;(with_reducible refine (spec_l17Copy.calls kj2 a0_0 a0_1 _ _ l0_2 t731 t732 t733 _ ?Zp ?Zq A18.out).mono ?_);(case Zp=>repeat (first | exact (Kd.C_below ZA.out HB.out) | (with_reducible refine Kd.C_alloc ?_ _) | (with_reducible refine Kd.C_drewN ?_ _) | (with_reducible refine Kd.C_drew ?_)));(case Zq=>exact ZB.out);rintro e w21 ⟨v734,rfl,ho0,hb⟩;refine ⟨_,rfl,?_⟩;have Zx:=aQ (Kd.N_lower (Kd.N_mono (ok':=fun k_=>(w.heap.size ≤ k_)∧k_ ≠ Zl∧k_ ≠ Zh) ho0 (fun k_ hk_=>⟨(Nat.le_trans (below_size bB) hk_),(Kd.freshB (nB Zb.out) k_ hk_),(Kd.freshB (nB Zc.out) k_ hk_)⟩)) (below_size bB));replace Zb:=aQ (blk_below (nB Zb.out) hb);replace Zc:=aQ (blk_below (nB Zc.out) hb);replace HB:=aQ (below_step bB hb);(try clear hb);(try clear ho0)) | ((with_reducible refine gate_dst (N:=6) rfl ?_);refine box1 (N:=6) (cs:=#[.int .i64 0,.int .i64 0,.slice none 0 0]) (t:=29) ?_;intro Zi hg w22 hbox hb;replace Zx:=aQ (Kd.N_below (Kd.N_elderB (nN Zx.out) Zi (Nat.le_of_eq hg.symm)) hb);have Zd:=aQ (hbox);have ZX:=aQ (gB:w.heap.size ≤ Zi);have XF:=ZX;replace HB:=aQ (below_step bB hb);have Zm:=aQ ((by rw [hg];exact Nat.ne_of_lt (blk_lt (nB Zb.out)):Zl ≠ Zi));have Zr:=aQ Zm.out.symm;replace Zb:=aQ (blk_below (nB Zb.out) hb);have Zn:=aQ ((by rw [hg];exact Nat.ne_of_lt (blk_lt (nB Zc.out)):Zh ≠ Zi));have Zs:=aQ Zn.out.symm;replace Zc:=aQ (blk_below (nB Zc.out) hb);clear hb hbox hg;have XG:=Zr.out;have XH:=Zm.out;have XI:=Zs.out;have XJ:=Zn.out;obtain ⟨ZM,ZN,ZO,ZP,ZQ,ZR⟩:=cz3 Zd.out;obtain ⟨ZZ,Ya,Yb⟩:=Kd.N_slice Zx.out;subst Yb))
    go_loopg [7] kj2 (fun kq v7 w'=>∃ (x7_2:Int) (x729000_2:Int) (x729001_2:Int) (x737000_2:Int) (x737001_2:Int) (x737002_2:List (S29)) (u737002:Value),v7 = .int .i64 x7_2∧Aside0 (spec_ClockLater.l0 kq a1 x7_2 x737000_2 x737001_2 x737002_2 = some (r1,r2,r3,r4))∧Aside0 (kq ≤ kj2)∧Aside0 (Kd.N k29 29 w' w.heap.size (fun k_=>(w.heap.size ≤ k_)∧k_ ≠ Zl∧k_ ≠ Zh∧k_ ≠ Zi) u737002 x737002_2)∧Aside0 (w'.heap[Zl]? = some (.cells #[.int .i64 a0_0,.int .i64 a0_1,(.slice A0_2 l0_2.length c0_2)] 29 (0,0)))∧Aside0 (w'.heap[Zh]? = some (.cells #[.int .i64 x729000_2,.int .i64 x729001_2,(.slice none 0 0)] 29 (0,0)))∧Aside0 (w'.heap[Zi]? = some (.cells #[.int .i64 x737000_2,.int .i64 x737001_2,u737002] 29 (0,0)))∧Aside0 (Below w.heap.size w w'))
    case atStart=>exact ⟨(0),(0),(0),(t731),(t732),(t733),(.slice ZZ t733.length Ya),rfl,H',⟨Nat.le_refl _⟩,⟨Kd.N_mono (nFN (g:=Zi) Zx.out (fun k_ hk=>hk.2)) (fun _ hk=>⟨hk.1.1,⟨hk.1.2.1,⟨hk.1.2.2,hk.2⟩⟩⟩)⟩,⟨bF⟩,⟨bF⟩,⟨bP⟩,⟨bB⟩⟩
    case round =>
     clear H'
     try clear ZG
     try clear ZH
     try clear ZI
     try clear ZM
     try clear ZN
     try clear ZO
     try clear ZJ
     try clear ZK
     try clear ZL
     try clear ZP
     try clear ZQ
     try clear ZR
     repeat (first | clear Za | clear Zb | clear Zc | clear Zd | clear HB)
     obtain ⟨x7_2,x729000_2,x729001_2,x737000_2,x737001_2,x737002_2,u737002,rfl,HA,HK2,Za,Zb,Zc,Zd,HB⟩:=hrel
     cases gk with
     | zero=>exact absurd HA.out (by simp [spec_ClockLater.l0])
     | succ k2 =>
      have H:=HA.out
      clear HA
      simp only [spec_ClockLater.l0] at H
      by_cases c27:x7_2 < a1;rotate_left
      ·rw [if_neg c27] at H
       have c27b0:decide (x7_2 < a1) = false:=decide_eq_false c27
       clear c27
       simp only [Option.some.injEq,Prod.mk.injEq] at H
       obtain ⟨rfl,rfl,rfl,rfl⟩:=H
       have XK:=Zr.out
       have XL:=Zm.out
       have XM:=Zs.out
       have XN:=Zn.out
       obtain ⟨YB,YC,YD,YE,YF,YG⟩:=cz3 Zd.out
       have XO:=Zk.out
       have XP:=Zj.out
       obtain ⟨YH,YI,YJ,YK,YL,YM⟩:=cz3 Zc.out
       obtain ⟨Yc,Yd,Ye⟩:=Kd.N_slice Za.out
       subst Ye
       go_wp2
       refine bodyPost_ret (results_ct rfl _ _ Zh 29 #[.int .i64 x737000_2,.int .i64 x737001_2,.slice Yc x737002_2.length Yd] (0,0) _ rfl bP Try.underlying29 rfl (by kernel_rfl)) rfl ?_
       exact ⟨_,rfl,by (with_reducible repeat (first | apply Kd.N_alloc | apply Kd.N_drewN | apply Kd.N_drew));exact Kd.N_mono (nFN (g:=Zh) Za.out (fun k_ hk=>hk.2.2.1)) (fun _ hk=>hk.1),bB⟩
      rw [if_pos c27] at H
      have c27b0:decide (x7_2 < a1) = true:=decide_eq_true c27
      clear c27
      obtain ⟨⟨t737,t738,t739,t742⟩,A28,H⟩:=bQ H
      dsimp only at H
      by_cases c29:t742 = true
      ·subst c29
       have H1:(spec_ClockLater.l0 k2 a1 (wrap64 (x7_2 + 1)) t737 t738 t739) = some (r1,r2,r3,r4):=by rw [if_pos rfl] at H;exact H
       clear H
       have H:=H1
       clear H1
       have H':=aQ H
       clear H
       have XQ:=Zr.out
       have XR:=Zm.out
       have XS:=Zs.out
       have XT:=Zn.out
       obtain ⟨YN,YO,YP,YQ,YR,YS⟩:=cz3 Zd.out
       obtain ⟨Zy,Zz,Yf⟩:=Kd.N_slice Za.out
       subst Yf
       go_wp2_with (first | ((with_reducible refine gate_callee (f:=50) rfl ?_);refine goesL_ (some 28) rfl rfl Try.func50 (by kernel_rfl) rfl #[.agg #[.int .i64 x737000_2,.int .i64 x737001_2,.slice Zy x737002_2.length Zz]] rfl mP ?_;(with_reducible refine (spec_l17Pass.calls k2 x737000_2 x737001_2 _ _ x737002_2 t737 t738 t739 true _ ?Zp ?Zq A28.out).mono ?_);(case Zp=>repeat (first | exact (Kd.N_reads' Za.out).2.2 | (with_reducible refine Kd.C_alloc ?_ _) | (with_reducible refine Kd.C_drewN ?_ _) | (with_reducible refine Kd.C_drew ?_)));(case Zq=>exact (Kd.N_reads' Za.out).2.1);rintro e w34 ⟨v740,rfl,ho0,hb⟩;refine ⟨_,rfl,?_⟩;have Zt:=aQ (Kd.N_lower (Kd.N_mono (ok':=fun k_=>(w.heap.size ≤ k_)∧some k_ ≠ (.slice Zy x737002_2.length Zz:Value).ownBlock∧k_ ≠ Zl∧k_ ≠ Zh∧k_ ≠ Zi) ho0 (fun k_ hk_=>⟨(Nat.le_trans (below_size bB) hk_),(Kd.fresh' (Kd.N_lt (nN Za.out)) k_ hk_),(Kd.freshB (nB Zb.out) k_ hk_),(Kd.freshB (nB Zc.out) k_ hk_),(Kd.freshB (nB Zd.out) k_ hk_)⟩)) (below_size bB));replace Za:=aQ (Kd.N_elder' (nN Za.out) (Kd.N_base ho0) hb);replace Zb:=aQ (blk_below (nB Zb.out) hb);replace Zc:=aQ (blk_below (nB Zc.out) hb);replace Zd:=aQ (blk_below (nB Zd.out) hb);replace HB:=aQ (below_step bB hb);(try clear hb);(try clear ho0)) | ((with_reducible refine gate_dst (N:=8) rfl ?_);refine box1 (N:=8) (cs:=#[.int .i64 0,.int .i64 0,.slice none 0 0]) (t:=29) ?_;intro Ze hg w35 hbox hb;replace Za:=aQ (Kd.N_below (Kd.N_elderB (nN Za.out) Ze (Nat.le_of_eq hg.symm)) hb);replace Zt:=aQ (Kd.N_below (Kd.N_elderB (nN Zt.out) Ze (Nat.le_of_eq hg.symm)) hb);have ZC:=aQ (hbox);have ZD:=aQ (gB:w.heap.size ≤ Ze);have ZY:=ZD;replace HB:=aQ (below_step bB hb);have Zo:=aQ ((by rw [hg];exact Nat.ne_of_lt (blk_lt (nB Zb.out)):Zl ≠ Ze));have Zu:=aQ Zo.out.symm;replace Zb:=aQ (blk_below (nB Zb.out) hb);have Zf:=aQ ((by rw [hg];exact Nat.ne_of_lt (blk_lt (nB Zc.out)):Zh ≠ Ze));have Zv:=aQ Zf.out.symm;replace Zc:=aQ (blk_below (nB Zc.out) hb);have Zg:=aQ ((by rw [hg];exact Nat.ne_of_lt (blk_lt (nB Zd.out)):Zi ≠ Ze));have Zw:=aQ Zg.out.symm;replace Zd:=aQ (blk_below (nB Zd.out) hb);clear hb hbox hg;have XU:=Zu.out;have XV:=Zo.out;have XW:=Zv.out;have XX:=Zf.out;have XY:=Zw.out;have XZ:=Zg.out;obtain ⟨YT,YU,YV,YW,YX,YY⟩:=cz3 ZC.out;obtain ⟨ZE,ZF,Yg⟩:=Kd.N_slice Zt.out;subst Yg;obtain ⟨YZ,Xa,Xb,Xc,Xd,Xe⟩:=cz3 Zd.out))
       go_roundg k2
       case measure=>have:=HJ2.out;have:=HK2.out;omega
       case rel=>exact ⟨(wrap64 (x7_2 + 1)),(x729000_2),(x729001_2),(t737),(t738),(t739),(.slice ZE t739.length ZF),rfl,H',⟨by have:=HJ2.out;have:=HK2.out;omega⟩,⟨nN (Kd.N_mono (Kd.N_far (p:=⟨Zi,2,none⟩) (Kd.N_far (p:=⟨Zi,1,none⟩) (Kd.N_far (p:=⟨Zi,0,none⟩) (Kd.N_far (p:=⟨Ze,2,none⟩) (Kd.N_far (p:=⟨Ze,1,none⟩) (Kd.N_far (p:=⟨Ze,0,none⟩) (Kd.N_mono (Kd.N_mono Zt.out (fun k_ hk=>(⟨hk,hk.2⟩:_∧k_ ≠ Ze))) (fun k_ hk=>(⟨hk,hk.1.1.2.2.2.2⟩:_∧k_ ≠ Zi))) (fun _ hk=>hk.1.2) (.int .i64 t737)) (fun _ hk=>hk.1.2) (.int .i64 t738)) (fun _ hk=>hk.1.2) (.slice ZE t739.length ZF)) (fun _ hk=>hk.2) (.int .i64 t737)) (fun _ hk=>hk.2) (.int .i64 t738)) (fun _ hk=>hk.2) (.slice ZE t739.length ZF)) (fun _ hk=>⟨hk.1.1.1.1,⟨hk.1.1.1.2.2.1,⟨hk.1.1.1.2.2.2.1,hk.1.1.1.2.2.2.2⟩⟩⟩))⟩,⟨bF⟩,⟨bF⟩,⟨by (with_reducible repeat (first | refine blk_drewN ?_ _ | refine blk_drew ?_ | refine blk_alloc ?_ _));refine blk_put (cs:=#[.int .i64 t737,.int .i64 t738,.slice Zy x737002_2.length Zz]) ?_ 2 _ rfl;(with_reducible repeat (first | refine blk_drewN ?_ _ | refine blk_drew ?_ | refine blk_alloc ?_ _));refine blk_put (cs:=#[.int .i64 t737,.int .i64 x737001_2,.slice Zy x737002_2.length Zz]) ?_ 1 _ rfl;(with_reducible repeat (first | refine blk_drewN ?_ _ | refine blk_drew ?_ | refine blk_alloc ?_ _));refine blk_put (cs:=#[.int .i64 x737000_2,.int .i64 x737001_2,.slice Zy x737002_2.length Zz]) ?_ 0 _ rfl;(with_reducible repeat (first | refine blk_drewN ?_ _ | refine blk_drew ?_ | refine blk_alloc ?_ _));refine blk_far ?_ Zg.out _;(with_reducible repeat (first | refine blk_drewN ?_ _ | refine blk_drew ?_ | refine blk_alloc ?_ _));refine blk_far ?_ Zg.out _;(with_reducible repeat (first | refine blk_drewN ?_ _ | refine blk_drew ?_ | refine blk_alloc ?_ _));refine blk_far ?_ Zg.out _;(with_reducible repeat (first | refine blk_drewN ?_ _ | refine blk_drew ?_ | refine blk_alloc ?_ _));exact Zd.out⟩,⟨bB⟩⟩
      ·replace c29:=Bool.eq_false_iff.mpr c29
       subst c29
       have H1:(some (0,0,([]:List (S29)),false)) = some (r1,r2,r3,r4):=by rw [if_neg (show ¬ (false = true) by decide)] at H;exact H
       clear H
       have H:=H1
       clear H1
       simp only [Option.some.injEq,Prod.mk.injEq] at H
       obtain ⟨rfl,rfl,rfl,rfl⟩:=H
       have Wa:=Zr.out
       have Wb:=Zm.out
       have Wc:=Zs.out
       have Wd:=Zn.out
       obtain ⟨Xf,Xg,Xh,Xi,Xj,Xk⟩:=cz3 Zd.out
       obtain ⟨ZT,ZU,Yh⟩:=Kd.N_slice Za.out
       subst Yh
       go_wp2_with (first | ((with_reducible refine gate_callee (f:=50) rfl ?_);refine goesL_ (some 28) rfl rfl Try.func50 (by kernel_rfl) rfl #[.agg #[.int .i64 x737000_2,.int .i64 x737001_2,.slice ZT x737002_2.length ZU]] rfl mP ?_;(with_reducible refine (spec_l17Pass.calls k2 x737000_2 x737001_2 _ _ x737002_2 t737 t738 t739 false _ ?Zp ?Zq A28.out).mono ?_);(case Zp=>repeat (first | exact (Kd.N_reads' Za.out).2.2 | (with_reducible refine Kd.C_alloc ?_ _) | (with_reducible refine Kd.C_drewN ?_ _) | (with_reducible refine Kd.C_drew ?_)));(case Zq=>exact (Kd.N_reads' Za.out).2.1);rintro e w46 ⟨v740,rfl,ho0,hb⟩;refine ⟨_,rfl,?_⟩;have Zt:=aQ (Kd.N_lower (Kd.N_mono (ok':=fun k_=>(w.heap.size ≤ k_)∧some k_ ≠ (.slice ZT x737002_2.length ZU:Value).ownBlock∧k_ ≠ Zl∧k_ ≠ Zh∧k_ ≠ Zi) ho0 (fun k_ hk_=>⟨(Nat.le_trans (below_size bB) hk_),(Kd.fresh' (Kd.N_lt (nN Za.out)) k_ hk_),(Kd.freshB (nB Zb.out) k_ hk_),(Kd.freshB (nB Zc.out) k_ hk_),(Kd.freshB (nB Zd.out) k_ hk_)⟩)) (below_size bB));replace Za:=aQ (Kd.N_elder' (nN Za.out) (Kd.N_base ho0) hb);replace Zb:=aQ (blk_below (nB Zb.out) hb);replace Zc:=aQ (blk_below (nB Zc.out) hb);replace Zd:=aQ (blk_below (nB Zd.out) hb);replace HB:=aQ (below_step bB hb);(try clear hb);(try clear ho0)) | ((with_reducible refine gate_dst (N:=8) rfl ?_);refine box1 (N:=8) (cs:=#[.int .i64 0,.int .i64 0,.slice none 0 0]) (t:=29) ?_;intro Ze hg w47 hbox hb;replace Za:=aQ (Kd.N_below (Kd.N_elderB (nN Za.out) Ze (Nat.le_of_eq hg.symm)) hb);replace Zt:=aQ (Kd.N_below (Kd.N_elderB (nN Zt.out) Ze (Nat.le_of_eq hg.symm)) hb);have ZC:=aQ (hbox);have ZD:=aQ (gB:w.heap.size ≤ Ze);have ZY:=ZD;replace HB:=aQ (below_step bB hb);have Zo:=aQ ((by rw [hg];exact Nat.ne_of_lt (blk_lt (nB Zb.out)):Zl ≠ Ze));have Zu:=aQ Zo.out.symm;replace Zb:=aQ (blk_below (nB Zb.out) hb);have Zf:=aQ ((by rw [hg];exact Nat.ne_of_lt (blk_lt (nB Zc.out)):Zh ≠ Ze));have Zv:=aQ Zf.out.symm;replace Zc:=aQ (blk_below (nB Zc.out) hb);have Zg:=aQ ((by rw [hg];exact Nat.ne_of_lt (blk_lt (nB Zd.out)):Zi ≠ Ze));have Zw:=aQ Zg.out.symm;replace Zd:=aQ (blk_below (nB Zd.out) hb);clear hb hbox hg;have We:=Zu.out;have Wf:=Zo.out;have Wg:=Zv.out;have Wh:=Zf.out;have Wi:=Zw.out;have Wj:=Zg.out;obtain ⟨Xl,Xm,Xn,Xo,Xp,Xq⟩:=cz3 ZC.out;obtain ⟨Wo,Wp,Yi⟩:=Kd.N_slice Zt.out;subst Yi;have Wk:=Zk.out;have Wl:=Zj.out;obtain ⟨Xr,Xs,Xt,Xu,Xv,Xw⟩:=cz3 Zc.out))
       refine bodyPost_ret (results_ct rfl _ _ Zh 29 #[.int .i64 0,.int .i64 0,.slice none 0 0] (0,0) _ rfl (by (with_reducible repeat (first | refine blk_drewN ?_ _ | refine blk_drew ?_ | refine blk_alloc ?_ _));refine blk_put (cs:=#[.int .i64 0,.int .i64 0,.slice none 0 0]) ?_ 2 _ rfl;(with_reducible repeat (first | refine blk_drewN ?_ _ | refine blk_drew ?_ | refine blk_alloc ?_ _));refine blk_put (cs:=#[.int .i64 0,.int .i64 x729001_2,.slice none 0 0]) ?_ 1 _ rfl;(with_reducible repeat (first | refine blk_drewN ?_ _ | refine blk_drew ?_ | refine blk_alloc ?_ _));refine blk_put (cs:=#[.int .i64 x729000_2,.int .i64 x729001_2,.slice none 0 0]) ?_ 0 _ rfl;(with_reducible repeat (first | refine blk_drewN ?_ _ | refine blk_drew ?_ | refine blk_alloc ?_ _));refine blk_far ?_ Zf.out _;(with_reducible repeat (first | refine blk_drewN ?_ _ | refine blk_drew ?_ | refine blk_alloc ?_ _));refine blk_far ?_ Zf.out _;(with_reducible repeat (first | refine blk_drewN ?_ _ | refine blk_drew ?_ | refine blk_alloc ?_ _));refine blk_far ?_ Zf.out _;(with_reducible repeat (first | refine blk_drewN ?_ _ | refine blk_drew ?_ | refine blk_alloc ?_ _));exact Zc.out) Try.underlying29 rfl (by kernel_rfl)) rfl ?_
       exact ⟨_,rfl,by first | exact Kd.R_nil _ _ _ _ _ | exact Kd.N_nil _ _ _ _ _ | exact Kd.V_nil _ _ _ _ _ | exact Kd.Q_nil _ _ _ _ _ | exact Kd.S_nil _ _ _ _ _,bB⟩
def spec_DrawClockLater.f (k:Nat) (l0:List Int):Option (Int × Int × (List (S29)) × Int):=(spec_l6Open.f l0).bind fun bt925=>((spec_l92Timed.f k bt925.1 bt925.2).bind fun bt928=>((spec_l6Rd_pick.f k bt925.1 bt928.2.2.2 8).bind fun bt935=>((spec_l6Rd_pick.f k bt925.1 bt935.2 20).bind fun bt937=>(if bt937.1 = 0 then ((some (([(-1),100,101]:List Int):List Int)).bind fun y939=>((spec_l6Rd_pick.f k bt925.1 bt937.2 3).bind fun bt942=>(if 0 ≤ bt942.1 then (if bt942.1 < (y939.length:Int) then (some (bt928.1,bt928.2.1,bt928.2.2.1,rd y939 bt942.1)) else (none)) else (none)))) else (some (bt928.1,bt928.2.1,bt928.2.2.1,bt935.1))))))
theorem spec_DrawClockLater.mono:∀ a0 k,LeO (spec_DrawClockLater.f k a0) (spec_DrawClockLater.f (k + 1) a0):=by
 intro a0 k
 unfold spec_DrawClockLater.f
 repeat' first
   | (with_reducible exact spec_l6Rd_pick.mono _ _ _ _)
   | (with_reducible exact spec_l92Timed.mono _ _ _)
   | (with_reducible exact LeO.refl _)
   | (with_reducible exact LeO.none _)
   | (with_reducible refine LeO.ite ?_ ?_)
   | (with_reducible refine LeO.bind ?_ (fun _=>?_))
   | exact spec_l6Rd_pick.mono _ _ _ _
   | exact spec_l92Timed.mono _ _ _
   | exact LeO.none _
   | refine LeO.ite ?_ ?_
   | refine LeO.bind ?_ (fun _=>?_)
set_option maxHeartbeats 8000000 in
set_option maxRecDepth 100000 in
theorem spec_DrawClockLater.calls (k:Nat) (A0:Option Addr) (c0:Nat) (l0:List Int) (r1:Int) (r2:Int) (r3:List (S29)) (r4:Int) (w:World) (hr0:Kd.C (Kd.int .u8) w A0 l0.length l0) (hc0:l0.length ≤ c0) (h:spec_DrawClockLater.f k l0 = some (r1,r2,r3,r4)) :
  Calls Try.prog 37 #[.slice A0 l0.length c0] w fun e w'=>∃ v2_:Value,e = .returned (.tuple #[.agg #[.int .i64 r1,.int .i64 r2,v2_],.int .i64 r4])∧Kd.N k29 29 w' w.heap.size (fun k_=>(w.heap.size ≤ k_)) v2_ r3∧Below w.heap.size w w':=by
 have hu29:=Try.underlying29
 have Zz:=aQ hr0
 have ZA:=aQ hc0
 clear hr0 hc0
 have HB:=aQ (Below.refl w.heap.size w)
 have H:=h
 clear h
 obtain ⟨⟨t925,t926⟩,A2,H⟩:=bQ H
 dsimp only at H
 obtain ⟨⟨t928,t929,t930,t933⟩,A3,H⟩:=bQ H
 dsimp only at H
 obtain ⟨⟨t935,t936⟩,A4,H⟩:=bQ H
 dsimp only at H
 obtain ⟨⟨t937,t938⟩,A5,H⟩:=bQ H
 dsimp only at H
 by_cases c6:t937 = 0;rotate_left
 ·rw [if_neg c6] at H
  have c6b0:(t937 == 0) = false:=beq_eq_false_iff_ne.mpr c6
  have c6b1:(t937 != 0) = true:=bne_iff_ne.mpr c6
  simp only [Option.some.injEq,Prod.mk.injEq] at H
  obtain ⟨rfl,rfl,rfl,rfl⟩:=H
  go_enter Try.func37,Try.ntmps37
  go_wp2_with (first | ((with_reducible refine gate_dst (N:=2) rfl ?_);refine box1 (N:=2) (cs:=#[.int .i64 0,.int .i64 0,.slice none 0 0]) (t:=29) ?_;intro Zd hg w27 hbox hb;have Zb:=aQ (hbox);have Zq:=aQ (gB:w.heap.size ≤ Zd);have Zx:=Zq;replace HB:=aQ (below_step bB hb);clear hb hbox hg) | ((with_reducible refine gate_callee (f:=45) rfl ?_);refine goesL_ (some 8) rfl rfl Try.func45 (by kernel_rfl) rfl #[.slice A0 l0.length c0] rfl mP ?_;(with_reducible refine (spec_l6Open.calls _ _ l0 t925 t926 w _ ?Zh ?Zi ?Zr A2.out).mono ?_);(case Zh=>exact bB);(case Zi=>exact Zz.out);(case Zr=>exact ZA.out);rintro e w28 ⟨g927,rfl,hi,hb,hb2⟩;refine ⟨_,rfl,?_⟩;replace HB:=aQ (hb);have HI927:=aQ (hi);have Za:=aQ (IsS67.ne_blk hi (blk_below (nB Zb.out) hb2) (by decide));have Zf:=aQ (Ne.symm (IsS67.ne_blk hi (blk_below (nB Zb.out) hb2) (by decide)));replace Zb:=aQ (blk_below (nB Zb.out) hb2);(try clear hb);(try clear hb2);(try clear hi)) | ((with_reducible refine gate_callee (f:=46) rfl ?_);refine goesL_ (some 10) rfl rfl Try.func46 (by kernel_rfl) rfl #[.pointer (some ⟨g927,0,none⟩)] rfl mP ?_;(with_reducible refine (spec_l92Timed.calls k g927 t925 t926 t928 t929 t930 t933 w _ ?Zh ?Zi A3.out).mono ?_);(case Zh=>repeat (first | (with_reducible first | exact HI927.out | apply IsS67.alloc | apply IsS67.drewN | apply IsS67.drew | apply IsS67.set_1 | refine IsS67.far ?_ Za.out _) | exact HI927.out));(case Zi=>exact bB);rintro e w29 ⟨v931,rfl,ho0,hi,hb,hk⟩;refine ⟨_,rfl,?_⟩;have Ze:=aQ (Kd.N_lower (Kd.N_mono (ok':=fun k_=>(w.heap.size ≤ k_)∧k_ ≠ Zd∧k_ ≠ g927) ho0 (fun k_ hk_=>⟨(Nat.le_trans (below_size bB) hk_),(Kd.freshB (nB Zb.out) k_ hk_),(IsS67.fresh (by repeat (first | (with_reducible first | exact HI927.out | apply IsS67.alloc | apply IsS67.drewN | apply IsS67.drew | apply IsS67.set_1 | refine IsS67.far ?_ Za.out _) | exact HI927.out)) k_ hk_)⟩)) (below_size bB));replace Zb:=aQ (KeepBut.blk hk (g':=Zd) (o:=.cells #[.int .i64 0,.int .i64 0,.slice none 0 0] 29 (0,0)) (nB Zb.out) Zf.out (by simp));replace HB:=aQ (hb);replace HI927:=aQ (hi);(try clear hb);(try clear hk);(try clear hi);(try clear ho0)) | ((with_reducible refine gate_dst (N:=5) rfl ?_);refine box1 (N:=5) (cs:=#[.int .i64 0,.int .i64 0,.slice none 0 0]) (t:=29) ?_;intro Zc hg w30 hbox hb;replace Ze:=aQ (Kd.N_below (Kd.N_elderB (nN Ze.out) Zc (Nat.le_of_eq hg.symm)) hb);have Zk:=aQ (hbox);have Zs:=aQ (gB:w.heap.size ≤ Zc);have Zy:=Zs;replace HB:=aQ (below_step bB hb);have Zl:=aQ ((by rw [hg];exact Nat.ne_of_lt (blk_lt (nB Zb.out)):Zd ≠ Zc));have Zm:=aQ Zl.out.symm;replace Zb:=aQ (blk_below (nB Zb.out) hb);have Zg:=aQ ((by rw [hg];exact Nat.ne_of_lt (IsS67.lt (show IsS67 w _ g927 t925 t933 from by repeat (first | (with_reducible first | exact HI927.out | apply IsS67.alloc | apply IsS67.drewN | apply IsS67.drew | apply IsS67.set_1 | refine IsS67.far ?_ Za.out _) | exact HI927.out))):g927 ≠ Zc));have Zj:=aQ ((by rw [hg];exact Nat.ne_of_gt (IsS67.lt (show IsS67 w _ g927 t925 t933 from by repeat (first | (with_reducible first | exact HI927.out | apply IsS67.alloc | apply IsS67.drewN | apply IsS67.drew | apply IsS67.set_1 | refine IsS67.far ?_ Za.out _) | exact HI927.out))):Zc ≠ g927));replace HI927:=aQ (IsS67.below (by repeat (first | (with_reducible first | exact HI927.out | apply IsS67.alloc | apply IsS67.drewN | apply IsS67.drew | apply IsS67.set_1 | refine IsS67.far ?_ Za.out _) | exact HI927.out)) hb);clear hb hbox hg;have Yp:=Zm.out;have Yq:=Zl.out;have Yr:=Zj.out;have Ys:=Zg.out;obtain ⟨ZE,ZF,ZG,ZH,ZI,ZJ⟩:=cz3 Zk.out;obtain ⟨Zt,Zu,ZB⟩:=Kd.N_slice Ze.out;subst ZB) | ((with_reducible refine gate_callee (f:=56) rfl ?_);refine goesL_ (some 12) rfl rfl Try.func56 (by kernel_rfl) rfl #[.pointer (some ⟨g927,0,none⟩),.int .i64 8] rfl mP ?_;(with_reducible refine (spec_l6Rd_pick.calls k g927 t925 t933 8 t935 t936 w _ ?Zh ?Zi A4.out).mono ?_);(case Zh=>repeat (first | (with_reducible first | exact HI927.out | apply IsS67.alloc | apply IsS67.drewN | apply IsS67.drew | apply IsS67.set_1 | refine IsS67.far ?_ Za.out _ | refine IsS67.far ?_ Zg.out _) | exact HI927.out));(case Zi=>exact bB);rintro e w35 ⟨rfl,hi,hb,hk⟩;refine ⟨_,rfl,?_⟩;replace Zb:=aQ (KeepBut.blk hk (g':=Zd) (o:=.cells #[.int .i64 0,.int .i64 0,.slice none 0 0] 29 (0,0)) bF Zf.out (by simp));replace Ze:=aQ (Kd.N_mono (Kd.N_keep (Kd.N_mono (ok:=fun k_=>((((w.heap.size ≤ k_))∧(k_ ≠ Zd∧k_ ≠ g927))∧k_ ≠ Zc)) (nN ((Kd.N_mono (Kd.N_far (p:=⟨Zc,2,none⟩) (Kd.N_far (p:=⟨Zc,1,none⟩) (Kd.N_far (p:=⟨Zc,0,none⟩) (Kd.N_mono Ze.out (fun k_ hk=>(⟨hk,hk.2⟩:_∧k_ ≠ Zc))) (fun _ hk=>hk.2) (.int .i64 t928)) (fun _ hk=>hk.2) (.int .i64 t929)) (fun _ hk=>hk.2) (.slice Zt t930.length Zu)) (fun _ h_=>h_.1)))) (fun k_ hk_=>(⟨hk_,hk_.1.2.2⟩:_∧k_ ≠ g927))) hk (fun _ h=>h.2)) (fun _ h=>h.1));replace Zk:=aQ (KeepBut.blk hk (g':=Zc) (o:=.cells #[.int .i64 t928,.int .i64 t929,.slice Zt t930.length Zu] 29 (0,0)) bP Zj.out (by simp));replace HB:=aQ (hb);replace HI927:=aQ (hi);(try clear hb);(try clear hk);(try clear hi)) | ((with_reducible refine gate_callee (f:=56) rfl ?_);refine goesL_ (some 14) rfl rfl Try.func56 (by kernel_rfl) rfl #[.pointer (some ⟨g927,0,none⟩),.int .i64 20] rfl mP ?_;(with_reducible refine (spec_l6Rd_pick.calls k g927 t925 t936 20 t937 t938 w _ ?Zh ?Zi A5.out).mono ?_);(case Zh=>repeat (first | (with_reducible first | exact HI927.out | apply IsS67.alloc | apply IsS67.drewN | apply IsS67.drew | apply IsS67.set_1 | refine IsS67.far ?_ Za.out _ | refine IsS67.far ?_ Zg.out _) | exact HI927.out));(case Zi=>exact bB);rintro e w36 ⟨rfl,hi,hb,hk⟩;refine ⟨_,rfl,?_⟩;replace Zb:=aQ (KeepBut.blk hk (g':=Zd) (o:=.cells #[.int .i64 0,.int .i64 0,.slice none 0 0] 29 (0,0)) (nB Zb.out) Zf.out (by simp));replace Ze:=aQ (Kd.N_mono (Kd.N_keep (Kd.N_mono (ok:=fun k_=>((((w.heap.size ≤ k_))∧(k_ ≠ Zd∧k_ ≠ g927))∧k_ ≠ Zc)) (nN Ze.out) (fun k_ hk_=>(⟨hk_,hk_.1.2.2⟩:_∧k_ ≠ g927))) hk (fun _ h=>h.2)) (fun _ h=>h.1));replace Zk:=aQ (KeepBut.blk hk (g':=Zc) (o:=.cells #[.int .i64 t928,.int .i64 t929,.slice Zt t930.length Zu] 29 (0,0)) (nB Zk.out) Zj.out (by simp));replace HB:=aQ (hb);replace HI927:=aQ (hi);(try clear hb);(try clear hk);(try clear hi);obtain ⟨ZK,ZL,ZM,ZN,ZO,ZP⟩:=cz3 Zk.out;have Yt:=Zf.out;have Yu:=Za.out;obtain ⟨ZQ,ZR,ZS,ZT,ZU,ZV⟩:=cz3 Zb.out))
  refine bodyPost_ret (results_ct rfl _ _ Zd 29 #[.int .i64 t928,.int .i64 t929,.slice Zt t930.length Zu] (0,0) _ rfl bP Try.underlying29 rfl (by kernel_rfl)) rfl ?_
  exact ⟨_,rfl,by (with_reducible repeat (first | apply Kd.N_alloc | apply Kd.N_drewN | apply Kd.N_drew));exact Kd.N_mono (nFN (g:=Zd) Ze.out (fun k_ hk=>hk.1.2.1)) (fun _ hk=>hk.1.1),bB⟩
 rw [if_pos c6] at H
 have c6b0:(t937 == 0) = true:=beq_iff_eq.mpr c6
 have c6b1:(t937 != 0) = false:=bne_eq_false_iff_eq.mpr c6
 clear c6
 obtain ⟨y939,Zv⟩:∃ y_:List Int,y_ = (([(-1),100,101]:List Int)):=⟨_,rfl⟩
 replace H:((spec_l6Rd_pick.f k t925 t938 3).bind fun bt942=>(if 0 ≤ bt942.1 then (if bt942.1 < (y939.length:Int) then (some (t928,t929,t930,rd y939 bt942.1)) else (none)) else (none))) = some (r1,r2,r3,r4):=by rw [Zv];exact H
 have Zw:=aQ Zv
 clear Zv
 obtain ⟨⟨t942,t943⟩,A7,H⟩:=bQ H
 dsimp only at H
 by_cases c8:0 ≤ t942;rotate_left
 ·rw [if_neg c8] at H
  exact absurd H (by simp)
 rw [if_pos c8] at H
 have c8b0:decide (0 ≤ t942) = true:=decide_eq_true c8
 clear c8
 by_cases c9:t942 < (y939.length:Int);rotate_left
 ·rw [if_neg c9] at H
  exact absurd H (by simp)
 rw [if_pos c9] at H
 have c9b0:decide (t942 < (y939.length:Int)) = true:=decide_eq_true c9
 clear c9
 simp only [Option.some.injEq,Prod.mk.injEq] at H
 obtain ⟨rfl,rfl,rfl,rfl⟩:=H
 go_enter Try.func37,Try.ntmps37
 go_wp2_with (first | ((with_reducible refine gate_dst (N:=2) rfl ?_);refine box1 (N:=2) (cs:=#[.int .i64 0,.int .i64 0,.slice none 0 0]) (t:=29) ?_;intro Zd hg w10 hbox hb;have Zb:=aQ (hbox);have Zq:=aQ (gB:w.heap.size ≤ Zd);have Zx:=Zq;replace HB:=aQ (below_step bB hb);clear hb hbox hg) | ((with_reducible refine gate_callee (f:=45) rfl ?_);refine goesL_ (some 8) rfl rfl Try.func45 (by kernel_rfl) rfl #[.slice A0 l0.length c0] rfl mP ?_;(with_reducible refine (spec_l6Open.calls _ _ l0 t925 t926 w _ ?Zh ?Zi ?Zr A2.out).mono ?_);(case Zh=>exact bB);(case Zi=>exact Zz.out);(case Zr=>exact ZA.out);rintro e w11 ⟨g927,rfl,hi,hb,hb2⟩;refine ⟨_,rfl,?_⟩;replace HB:=aQ (hb);have HI927:=aQ (hi);have Za:=aQ (IsS67.ne_blk hi (blk_below (nB Zb.out) hb2) (by decide));have Zf:=aQ (Ne.symm (IsS67.ne_blk hi (blk_below (nB Zb.out) hb2) (by decide)));replace Zb:=aQ (blk_below (nB Zb.out) hb2);(try clear hb);(try clear hb2);(try clear hi)) | ((with_reducible refine gate_callee (f:=46) rfl ?_);refine goesL_ (some 10) rfl rfl Try.func46 (by kernel_rfl) rfl #[.pointer (some ⟨g927,0,none⟩)] rfl mP ?_;(with_reducible refine (spec_l92Timed.calls k g927 t925 t926 t928 t929 t930 t933 w _ ?Zh ?Zi A3.out).mono ?_);(case Zh=>repeat (first | (with_reducible first | exact HI927.out | apply IsS67.alloc | apply IsS67.drewN | apply IsS67.drew | apply IsS67.set_1 | refine IsS67.far ?_ Za.out _) | exact HI927.out));(case Zi=>exact bB);rintro e w12 ⟨v931,rfl,ho0,hi,hb,hk⟩;refine ⟨_,rfl,?_⟩;have Ze:=aQ (Kd.N_lower (Kd.N_mono (ok':=fun k_=>(w.heap.size ≤ k_)∧k_ ≠ Zd∧k_ ≠ g927) ho0 (fun k_ hk_=>⟨(Nat.le_trans (below_size bB) hk_),(Kd.freshB (nB Zb.out) k_ hk_),(IsS67.fresh (by repeat (first | (with_reducible first | exact HI927.out | apply IsS67.alloc | apply IsS67.drewN | apply IsS67.drew | apply IsS67.set_1 | refine IsS67.far ?_ Za.out _) | exact HI927.out)) k_ hk_)⟩)) (below_size bB));replace Zb:=aQ (KeepBut.blk hk (g':=Zd) (o:=.cells #[.int .i64 0,.int .i64 0,.slice none 0 0] 29 (0,0)) (nB Zb.out) Zf.out (by simp));replace HB:=aQ (hb);replace HI927:=aQ (hi);(try clear hb);(try clear hk);(try clear hi);(try clear ho0)) | ((with_reducible refine gate_dst (N:=5) rfl ?_);refine box1 (N:=5) (cs:=#[.int .i64 0,.int .i64 0,.slice none 0 0]) (t:=29) ?_;intro Zc hg w13 hbox hb;replace Ze:=aQ (Kd.N_below (Kd.N_elderB (nN Ze.out) Zc (Nat.le_of_eq hg.symm)) hb);have Zk:=aQ (hbox);have Zs:=aQ (gB:w.heap.size ≤ Zc);have Zy:=Zs;replace HB:=aQ (below_step bB hb);have Zl:=aQ ((by rw [hg];exact Nat.ne_of_lt (blk_lt (nB Zb.out)):Zd ≠ Zc));have Zm:=aQ Zl.out.symm;replace Zb:=aQ (blk_below (nB Zb.out) hb);have Zg:=aQ ((by rw [hg];exact Nat.ne_of_lt (IsS67.lt (show IsS67 w _ g927 t925 t933 from by repeat (first | (with_reducible first | exact HI927.out | apply IsS67.alloc | apply IsS67.drewN | apply IsS67.drew | apply IsS67.set_1 | refine IsS67.far ?_ Za.out _) | exact HI927.out))):g927 ≠ Zc));have Zj:=aQ ((by rw [hg];exact Nat.ne_of_gt (IsS67.lt (show IsS67 w _ g927 t925 t933 from by repeat (first | (with_reducible first | exact HI927.out | apply IsS67.alloc | apply IsS67.drewN | apply IsS67.drew | apply IsS67.set_1 | refine IsS67.far ?_ Za.out _) | exact HI927.out))):Zc ≠ g927));replace HI927:=aQ (IsS67.below (by repeat (first | (with_reducible first | exact HI927.out | apply IsS67.alloc | apply IsS67.drewN | apply IsS67.drew | apply IsS67.set_1 | refine IsS67.far ?_ Za.out _) | exact HI927.out)) hb);clear hb hbox hg;have Yv:=Zm.out;have Yw:=Zl.out;have Yx:=Zj.out;have Yy:=Zg.out;obtain ⟨ZW,ZX,ZY,ZZ,Ya,Yb⟩:=cz3 Zk.out;obtain ⟨Zo,Zp,ZC⟩:=Kd.N_slice Ze.out;subst ZC) | ((with_reducible refine gate_callee (f:=56) rfl ?_);refine goesL_ (some 12) rfl rfl Try.func56 (by kernel_rfl) rfl #[.pointer (some ⟨g927,0,none⟩),.int .i64 8] rfl mP ?_;(with_reducible refine (spec_l6Rd_pick.calls k g927 t925 t933 8 t935 t936 w _ ?Zh ?Zi A4.out).mono ?_);(case Zh=>repeat (first | (with_reducible first | exact HI927.out | apply IsS67.alloc | apply IsS67.drewN | apply IsS67.drew | apply IsS67.set_1 | refine IsS67.far ?_ Za.out _ | refine IsS67.far ?_ Zg.out _) | exact HI927.out));(case Zi=>exact bB);rintro e w18 ⟨rfl,hi,hb,hk⟩;refine ⟨_,rfl,?_⟩;replace Zb:=aQ (KeepBut.blk hk (g':=Zd) (o:=.cells #[.int .i64 0,.int .i64 0,.slice none 0 0] 29 (0,0)) bF Zf.out (by simp));replace Ze:=aQ (Kd.N_mono (Kd.N_keep (Kd.N_mono (ok:=fun k_=>((((w.heap.size ≤ k_))∧(k_ ≠ Zd∧k_ ≠ g927))∧k_ ≠ Zc)) (nN ((Kd.N_mono (Kd.N_far (p:=⟨Zc,2,none⟩) (Kd.N_far (p:=⟨Zc,1,none⟩) (Kd.N_far (p:=⟨Zc,0,none⟩) (Kd.N_mono Ze.out (fun k_ hk=>(⟨hk,hk.2⟩:_∧k_ ≠ Zc))) (fun _ hk=>hk.2) (.int .i64 t928)) (fun _ hk=>hk.2) (.int .i64 t929)) (fun _ hk=>hk.2) (.slice Zo t930.length Zp)) (fun _ h_=>h_.1)))) (fun k_ hk_=>(⟨hk_,hk_.1.2.2⟩:_∧k_ ≠ g927))) hk (fun _ h=>h.2)) (fun _ h=>h.1));replace Zk:=aQ (KeepBut.blk hk (g':=Zc) (o:=.cells #[.int .i64 t928,.int .i64 t929,.slice Zo t930.length Zp] 29 (0,0)) bP Zj.out (by simp));replace HB:=aQ (hb);replace HI927:=aQ (hi);(try clear hb);(try clear hk);(try clear hi)) | ((with_reducible refine gate_callee (f:=56) rfl ?_);refine goesL_ (some 14) rfl rfl Try.func56 (by kernel_rfl) rfl #[.pointer (some ⟨g927,0,none⟩),.int .i64 20] rfl mP ?_;(with_reducible refine (spec_l6Rd_pick.calls k g927 t925 t936 20 t937 t938 w _ ?Zh ?Zi A5.out).mono ?_);(case Zh=>repeat (first | (with_reducible first | exact HI927.out | apply IsS67.alloc | apply IsS67.drewN | apply IsS67.drew | apply IsS67.set_1 | refine IsS67.far ?_ Za.out _ | refine IsS67.far ?_ Zg.out _) | exact HI927.out));(case Zi=>exact bB);rintro e w19 ⟨rfl,hi,hb,hk⟩;refine ⟨_,rfl,?_⟩;replace Zb:=aQ (KeepBut.blk hk (g':=Zd) (o:=.cells #[.int .i64 0,.int .i64 0,.slice none 0 0] 29 (0,0)) (nB Zb.out) Zf.out (by simp));replace Ze:=aQ (Kd.N_mono (Kd.N_keep (Kd.N_mono (ok:=fun k_=>((((w.heap.size ≤ k_))∧(k_ ≠ Zd∧k_ ≠ g927))∧k_ ≠ Zc)) (nN Ze.out) (fun k_ hk_=>(⟨hk_,hk_.1.2.2⟩:_∧k_ ≠ g927))) hk (fun _ h=>h.2)) (fun _ h=>h.1));replace Zk:=aQ (KeepBut.blk hk (g':=Zc) (o:=.cells #[.int .i64 t928,.int .i64 t929,.slice Zo t930.length Zp] 29 (0,0)) (nB Zk.out) Zj.out (by simp));replace HB:=aQ (hb);replace HI927:=aQ (hi);(try clear hb);(try clear hk);(try clear hi)) | ((with_reducible refine gate_dst (N:=16) rfl ?_);refine Kd.R_lit (Kd.int .i64) _ 3 ?hg (N:=16) ?hd (xs:=([(-1),100,101]:List Int)) (inner:=[.int .i64 (-1),.int .i64 100,.int .i64 101]) (ok:=fun _=>True) (okp:=fun _=>True) ?hr ?hp (fun _ hk=>hk) trivial (Below.refl _ _) (Nat.le_refl _) (by simp) ?_;(case hd=>rfl);(case hg=>rfl);(case hr=>first | (go_simp;done) | (go_simp;rfl));(case hp=>exact (Reps.one (show Kd.M (Kd.int .i64) _ _ _ (-1) [.int .i64 (-1)] from rfl) (Reps.one (show Kd.M (Kd.int .i64) _ _ _ 100 [.int .i64 100] from rfl) (Reps.one (show Kd.M (Kd.int .i64) _ _ _ 101 [.int .i64 101] from rfl) (Reps.none _ _)))));intro v940 w20 ho21 hb hg_ hnew_;clear hg_ hnew_;(first | rw [← Zw.out] at ho21 | (simp only [Int.reduceToNat] at ho21;rw [← Zw.out] at ho21));replace Ze:=aQ (Kd.N_elder' (nN Ze.out) (Kd.R_base ho21) hb);have Zn:=aQ (Kd.R_lower (Kd.R_newM (M:=fun k_=>(w.heap.size ≤ k_)) ho21 (below_size bB) (fun k_ h_=>h_)) (below_size bB));replace Zb:=aQ (blk_below (nB Zb.out) hb);replace HI927:=aQ (IsS67.below (by repeat (first | (with_reducible first | exact HI927.out | apply IsS67.alloc | apply IsS67.drewN | apply IsS67.drew | apply IsS67.set_1 | refine IsS67.far ?_ Za.out _ | refine IsS67.far ?_ Zg.out _) | exact HI927.out)) hb);replace Zk:=aQ (blk_below (nB Zk.out) hb);replace HB:=aQ (below_step bB hb);clear hb ho21) | ((with_reducible refine gate_callee (f:=56) rfl ?_);refine goesL_ (some 18) rfl rfl Try.func56 (by kernel_rfl) rfl #[.pointer (some ⟨g927,0,none⟩),.int .i64 3] rfl mP ?_;(with_reducible refine (spec_l6Rd_pick.calls k g927 t925 t938 3 t942 t943 w _ ?Zh ?Zi A7.out).mono ?_);(case Zh=>repeat (first | (with_reducible first | exact HI927.out | apply IsS67.alloc | apply IsS67.drewN | apply IsS67.drew | apply IsS67.set_1 | refine IsS67.far ?_ Za.out _ | refine IsS67.far ?_ Zg.out _) | exact HI927.out));(case Zi=>exact bB);rintro e w22 ⟨rfl,hi,hb,hk⟩;refine ⟨_,rfl,?_⟩;replace Zb:=aQ (KeepBut.blk hk (g':=Zd) (o:=.cells #[.int .i64 0,.int .i64 0,.slice none 0 0] 29 (0,0)) (nB Zb.out) Zf.out (by simp));replace Ze:=aQ (Kd.N_mono (Kd.N_keep (Kd.N_mono (ok:=fun k_=>(((((w.heap.size ≤ k_))∧(k_ ≠ Zd∧k_ ≠ g927))∧k_ ≠ Zc)∧some k_ ≠ (v940:Value).ownBlock)) (nN Ze.out) (fun k_ hk_=>(⟨hk_,hk_.1.1.2.2⟩:_∧k_ ≠ g927))) hk (fun _ h=>h.2)) (fun _ h=>h.1));replace Zk:=aQ (KeepBut.blk hk (g':=Zc) (o:=.cells #[.int .i64 t928,.int .i64 t929,.slice Zo t930.length Zp] 29 (0,0)) (nB Zk.out) Zj.out (by simp));replace Zn:=aQ (Kd.R_mono (Kd.R_keep (IsS67.apart (show IsS67 w _ g927 t925 t938 from by repeat (first | (with_reducible first | exact HI927.out | apply IsS67.alloc | apply IsS67.drewN | apply IsS67.drew | apply IsS67.set_1 | refine IsS67.far ?_ Za.out _ | refine IsS67.far ?_ Zg.out _) | exact HI927.out)) (nR Zn.out) (by decide)) hk (fun _ h=>h.2)) (fun _ h=>h.1));replace HB:=aQ (hb);replace HI927:=aQ (hi);(try clear hb);(try clear hk);(try clear hi);obtain ⟨YC,YD,ZD⟩:=Kd.R_slice Zn.out;subst ZD;have p944:0 ≤ (t942:Int):=of_decide_eq_true (by first | (with_reducible assumption) | assumption);have q944:t942 < (y939.length:Int):=of_decide_eq_true (by first | (with_reducible assumption) | assumption);obtain ⟨Yz,e944,Yc⟩:=Kd.at_int (Kd.R_reads' Zn.out).2.2 t942 p944 q944;cases e944;replace p944:=eq_true p944;replace q944:=eq_true q944;obtain ⟨Yd,Ye,Yf,Yg,Yh,Yi⟩:=cz3 Zk.out;have YA:=Zf.out;have YB:=Za.out;obtain ⟨Yj,Yk,Yl,Ym,Yn,Yo⟩:=cz3 Zb.out))
 refine bodyPost_ret (results_ct rfl _ _ Zd 29 #[.int .i64 t928,.int .i64 t929,.slice Zo t930.length Zp] (0,0) _ rfl bP Try.underlying29 rfl (by kernel_rfl)) rfl ?_
 exact ⟨_,rfl,by (with_reducible repeat (first | apply Kd.N_alloc | apply Kd.N_drewN | apply Kd.N_drew));exact Kd.N_mono (nFN (g:=Zd) Ze.out (fun k_ hk=>hk.1.1.2.1)) (fun _ hk=>hk.1.1.1),bB⟩
def impl_ClockPass.f (k:Nat) (a0_0:Int) (a0_1:Int) (l0_2:List (S29)):Option (Int × Int × (List (S29)) × Bool):=(impl_ClockOk.f k a0_0 a0_1 l0_2).bind fun t635=>(if t635 = true then ((impl_pass.f k a0_0 a0_1 l0_2).bind fun bt636=>(if bt636.2.2.2 = true then (some (bt636.1,bt636.2.1,bt636.2.2.1,true)) else (some (0,0,([]:List (S29)),false)))) else (some (0,0,([]:List (S29)),false)))
theorem impl_ClockPass.mono:∀ a0 a1 a2 k,LeO (impl_ClockPass.f k a0 a1 a2) (impl_ClockPass.f (k + 1) a0 a1 a2):=by
 intro a0 a1 a2 k
 unfold impl_ClockPass.f
 repeat' first
   | (with_reducible exact impl_ClockOk.mono _ _ _ _)
   | (with_reducible exact impl_pass.mono _ _ _ _)
   | (with_reducible exact LeO.refl _)
   | (with_reducible exact LeO.none _)
   | (with_reducible refine LeO.ite ?_ ?_)
   | (with_reducible refine LeO.bind ?_ (fun _=>?_))
   | exact impl_ClockOk.mono _ _ _ _
   | exact impl_pass.mono _ _ _ _
   | exact LeO.none _
   | refine LeO.ite ?_ ?_
   | refine LeO.bind ?_ (fun _=>?_)
set_option maxHeartbeats 8000000 in
set_option maxRecDepth 100000 in
theorem impl_ClockPass.calls (k:Nat) (a0_0:Int) (a0_1:Int) (P0_2_:Nat → Prop) (A0_2:Option Addr) (c0_2:Nat) (l0_2:List (S29)) (r1:Int) (r2:Int) (r3:List (S29)) (r4:Bool) (w:World) (hs0_2:Kd.V k29 29 w w.heap.size (fun k_=>P0_2_ k_) (.slice A0_2 l0_2.length c0_2) l0_2) (h:impl_ClockPass.f k a0_0 a0_1 l0_2 = some (r1,r2,r3,r4)) :
  Calls Try.prog 25 #[.agg #[.int .i64 a0_0,.int .i64 a0_1,.slice A0_2 l0_2.length c0_2]] w fun e w'=>∃ v2_:Value,e = .returned (.tuple #[.agg #[.int .i64 r1,.int .i64 r2,v2_],.bool r4])∧Kd.N k29 29 w' w.heap.size (fun k_=>(P0_2_ k_ ∨ w.heap.size ≤ k_)) v2_ r3∧Below w.heap.size w w':=by
 have hu29:=Try.underlying29
 have Za:=aQ (show Kd.V k29 29 w w.heap.size (fun k_=>(P0_2_ k_ ∨ w.heap.size ≤ k_)) (.slice A0_2 l0_2.length c0_2) l0_2 from Kd.V_mono hs0_2 (fun k_ hk=>.inl hk))
 have HB:=aQ (Below.refl w.heap.size w)
 have H:=h
 clear h
 obtain ⟨t635,A2,H⟩:=bQ H
 (try dsimp only at H)
 by_cases c3:t635 = true
 ·subst c3
  have H1:((impl_pass.f k a0_0 a0_1 l0_2).bind fun bt636=>(if bt636.2.2.2 = true then (some (bt636.1,bt636.2.1,bt636.2.2.1,true)) else (some (0,0,([]:List (S29)),false)))) = some (r1,r2,r3,r4):=by rw [if_pos rfl] at H;exact H
  clear H
  have H:=H1
  clear H1
  obtain ⟨⟨t636,t637,t638,t641⟩,A4,H⟩:=bQ H
  dsimp only at H
  by_cases c5:t641 = true
  ·subst c5
   have H1:(some (t636,t637,t638,true)) = some (r1,r2,r3,r4):=by rw [if_pos rfl] at H;exact H
   clear H
   have H:=H1
   clear H1
   simp only [Option.some.injEq,Prod.mk.injEq] at H
   obtain ⟨rfl,rfl,rfl,rfl⟩:=H
   go_enter Try.func25,Try.ntmps25
   go_wp2_with (first | ((with_reducible refine gate_dst (N:=1) rfl ?_);refine box1 (N:=1) (cs:=#[.int .i64 a0_0,.int .i64 a0_1,.slice A0_2 l0_2.length c0_2]) (t:=29) ?_;intro Zf hg w6 hbox hb;replace Za:=aQ (Kd.V_below (Kd.V_elderB (nV Za.out) Zf (Nat.le_of_eq hg.symm)) hb);have Zb:=aQ (hbox);have Zo:=aQ (gB:w.heap.size ≤ Zf);have Zv:=Zo;replace HB:=aQ (below_step bB hb);clear hb hbox hg) | ((with_reducible refine gate_dst (N:=2) rfl ?_);refine box1 (N:=2) (cs:=#[.int .i64 0,.int .i64 0,.slice none 0 0]) (t:=29) ?_;intro Zd hg w7 hbox hb;replace Za:=aQ (Kd.V_below (Kd.V_elderB (nV Za.out) Zd (Nat.le_of_eq hg.symm)) hb);have Zc:=aQ (hbox);have Zp:=aQ (gB:w.heap.size ≤ Zd);have Zw:=Zp;replace HB:=aQ (below_step bB hb);have Zg:=aQ ((by rw [hg];exact Nat.ne_of_lt (blk_lt (nB Zb.out)):Zf ≠ Zd));have Zi:=aQ Zg.out.symm;replace Zb:=aQ (blk_below (nB Zb.out) hb);clear hb hbox hg;have YU:=Zg.out;have YV:=Zi.out;obtain ⟨YC,YD,YE,YF,YG,YH⟩:=cz3 Zb.out) | ((with_reducible refine gate_callee (f:=16) rfl ?_);refine goesL_ (some 7) rfl rfl Try.func16 (by kernel_rfl) rfl #[.agg #[.int .i64 a0_0,.int .i64 a0_1,.slice A0_2 l0_2.length c0_2]] rfl mP ?_;(with_reducible refine (impl_ClockOk.calls k a0_0 a0_1 _ _ l0_2 true _ ?Zk ?Zq A2.out).mono ?_);(case Zk=>repeat (first | exact (Kd.V_reads' Za.out).2.2 | (with_reducible refine Kd.C_alloc ?_ _) | (with_reducible refine Kd.C_drewN ?_ _) | (with_reducible refine Kd.C_drew ?_)));(case Zq=>exact (Kd.V_reads' Za.out).2.1);rintro e w10 ⟨rfl,hb⟩;refine ⟨_,rfl,?_⟩;replace Za:=aQ (Kd.V_below (nV Za.out) hb);replace Zb:=aQ (blk_below (nB Zb.out) hb);replace Zc:=aQ (blk_below (nB Zc.out) hb);replace HB:=aQ (below_step bB hb);(try clear hb);obtain ⟨ZA,ZB,ZC,ZD,ZE,ZF⟩:=cz3 Zb.out) | ((with_reducible refine gate_callee (f:=49) rfl ?_);refine goesL_ (some 12) rfl rfl Try.func49 (by kernel_rfl) rfl #[.agg #[.int .i64 a0_0,.int .i64 a0_1,.slice A0_2 l0_2.length c0_2]] rfl mP ?_;(with_reducible refine (impl_pass.calls k a0_0 a0_1 (fun k_=>(((P0_2_ k_ ∨ w.heap.size ≤ k_)∧k_ ≠ Zf)∧k_ ≠ Zd)) _ _ l0_2 t636 t637 t638 true _ ?Zk A4.out).mono ?_);(case Zk=>exact Za.out);rintro e w12 ⟨v639,rfl,ho0,hb⟩;refine ⟨_,rfl,?_⟩;replace Za:=aQ (Kd.V_elder' (nV Za.out) (Kd.N_base ho0) hb);have Zl:=aQ (Kd.N_lower (Kd.N_mono (ok':=fun k_=>(P0_2_ k_ ∨ w.heap.size ≤ k_)∧k_ ≠ Zf∧k_ ≠ Zd) ho0 (fun k_ hk_=>⟨Or.elim hk_ (fun hs_=>hs_.1.1) (fun hn_=>(.inr (Nat.le_trans (below_size bB) hn_))),Or.elim hk_ (fun hs_=>hs_.1.2) (fun hn_=>(Kd.freshB (nB Zb.out) k_ hn_)),Or.elim hk_ (fun hs_=>hs_.2) (fun hn_=>(Kd.freshB (nB Zc.out) k_ hn_))⟩)) (below_size bB));replace Zb:=aQ (blk_below (nB Zb.out) hb);replace Zc:=aQ (blk_below (nB Zc.out) hb);replace HB:=aQ (below_step bB hb);(try clear hb);(try clear ho0)) | ((with_reducible refine gate_dst (N:=4) rfl ?_);refine box1 (N:=4) (cs:=#[.int .i64 0,.int .i64 0,.slice none 0 0]) (t:=29) ?_;intro Zh hg w13 hbox hb;replace Za:=aQ (Kd.V_below (Kd.V_elderB (nV Za.out) Zh (Nat.le_of_eq hg.symm)) hb);replace Zl:=aQ (Kd.N_below (Kd.N_elderB (nN Zl.out) Zh (Nat.le_of_eq hg.symm)) hb);have Zr:=aQ (hbox);have Zs:=aQ (gB:w.heap.size ≤ Zh);have Zx:=Zs;replace HB:=aQ (below_step bB hb);have Zj:=aQ ((by rw [hg];exact Nat.ne_of_lt (blk_lt (nB Zb.out)):Zf ≠ Zh));have Zm:=aQ Zj.out.symm;replace Zb:=aQ (blk_below (nB Zb.out) hb);have Ze:=aQ ((by rw [hg];exact Nat.ne_of_lt (blk_lt (nB Zc.out)):Zd ≠ Zh));have Zn:=aQ Ze.out.symm;replace Zc:=aQ (blk_below (nB Zc.out) hb);clear hb hbox hg;have YI:=Zm.out;have YJ:=Zj.out;have YK:=Zn.out;have YL:=Ze.out;obtain ⟨ZG,ZH,ZI,ZJ,ZK,ZL⟩:=cz3 Zr.out;obtain ⟨Zt,Zu,Zy⟩:=Kd.N_slice Zl.out;subst Zy;obtain ⟨ZM,ZN,ZO,ZP,ZQ,ZR⟩:=cz3 Zc.out))
   refine bodyPost_ret (results_ct rfl _ _ Zd 29 #[.int .i64 t636,.int .i64 t637,.slice Zt t638.length Zu] (0,0) _ rfl (by (with_reducible repeat (first | refine blk_drewN ?_ _ | refine blk_drew ?_ | refine blk_alloc ?_ _));refine blk_put (cs:=#[.int .i64 t636,.int .i64 t637,.slice none 0 0]) ?_ 2 _ rfl;(with_reducible repeat (first | refine blk_drewN ?_ _ | refine blk_drew ?_ | refine blk_alloc ?_ _));refine blk_put (cs:=#[.int .i64 t636,.int .i64 0,.slice none 0 0]) ?_ 1 _ rfl;(with_reducible repeat (first | refine blk_drewN ?_ _ | refine blk_drew ?_ | refine blk_alloc ?_ _));refine blk_put (cs:=#[.int .i64 0,.int .i64 0,.slice none 0 0]) ?_ 0 _ rfl;(with_reducible repeat (first | refine blk_drewN ?_ _ | refine blk_drew ?_ | refine blk_alloc ?_ _));refine blk_far ?_ Ze.out _;(with_reducible repeat (first | refine blk_drewN ?_ _ | refine blk_drew ?_ | refine blk_alloc ?_ _));refine blk_far ?_ Ze.out _;(with_reducible repeat (first | refine blk_drewN ?_ _ | refine blk_drew ?_ | refine blk_alloc ?_ _));refine blk_far ?_ Ze.out _;(with_reducible repeat (first | refine blk_drewN ?_ _ | refine blk_drew ?_ | refine blk_alloc ?_ _));exact Zc.out) Try.underlying29 rfl (by kernel_rfl)) rfl ?_
   exact ⟨_,rfl,by (with_reducible repeat (first | apply Kd.N_alloc | apply Kd.N_drewN | apply Kd.N_drew));exact Kd.N_mono (Kd.N_far (p:=⟨Zd,2,none⟩) (Kd.N_far (p:=⟨Zd,1,none⟩) (Kd.N_far (p:=⟨Zd,0,none⟩) (Kd.N_far (p:=⟨Zh,2,none⟩) (Kd.N_far (p:=⟨Zh,1,none⟩) (Kd.N_far (p:=⟨Zh,0,none⟩) (Kd.N_mono (Kd.N_mono Zl.out (fun k_ hk=>(⟨hk,hk.2⟩:_∧k_ ≠ Zh))) (fun k_ hk=>(⟨hk,hk.1.1.2.2⟩:_∧k_ ≠ Zd))) (fun _ hk=>hk.1.2) (.int .i64 t636)) (fun _ hk=>hk.1.2) (.int .i64 t637)) (fun _ hk=>hk.1.2) (.slice Zt t638.length Zu)) (fun _ hk=>hk.2) (.int .i64 t636)) (fun _ hk=>hk.2) (.int .i64 t637)) (fun _ hk=>hk.2) (.slice Zt t638.length Zu)) (fun _ hk=>hk.1.1.1.1),bB⟩
  ·replace c5:=Bool.eq_false_iff.mpr c5
   subst c5
   have H1:(some (0,0,([]:List (S29)),false)) = some (r1,r2,r3,r4):=by rw [if_neg (show ¬ (false = true) by decide)] at H;exact H
   clear H
   have H:=H1
   clear H1
   simp only [Option.some.injEq,Prod.mk.injEq] at H
   obtain ⟨rfl,rfl,rfl,rfl⟩:=H
   go_enter Try.func25,Try.ntmps25
   go_wp2_with (first | ((with_reducible refine gate_dst (N:=1) rfl ?_);refine box1 (N:=1) (cs:=#[.int .i64 a0_0,.int .i64 a0_1,.slice A0_2 l0_2.length c0_2]) (t:=29) ?_;intro Zf hg w19 hbox hb;replace Za:=aQ (Kd.V_below (Kd.V_elderB (nV Za.out) Zf (Nat.le_of_eq hg.symm)) hb);have Zb:=aQ (hbox);have Zo:=aQ (gB:w.heap.size ≤ Zf);have Zv:=Zo;replace HB:=aQ (below_step bB hb);clear hb hbox hg) | ((with_reducible refine gate_dst (N:=2) rfl ?_);refine box1 (N:=2) (cs:=#[.int .i64 0,.int .i64 0,.slice none 0 0]) (t:=29) ?_;intro Zd hg w20 hbox hb;replace Za:=aQ (Kd.V_below (Kd.V_elderB (nV Za.out) Zd (Nat.le_of_eq hg.symm)) hb);have Zc:=aQ (hbox);have Zp:=aQ (gB:w.heap.size ≤ Zd);have Zw:=Zp;replace HB:=aQ (below_step bB hb);have Zg:=aQ ((by rw [hg];exact Nat.ne_of_lt (blk_lt (nB Zb.out)):Zf ≠ Zd));have Zi:=aQ Zg.out.symm;replace Zb:=aQ (blk_below (nB Zb.out) hb);clear hb hbox hg;have YM:=Zg.out;have YN:=Zi.out;obtain ⟨ZS,ZT,ZU,ZV,ZW,ZX⟩:=cz3 Zb.out) | ((with_reducible refine gate_callee (f:=16) rfl ?_);refine goesL_ (some 7) rfl rfl Try.func16 (by kernel_rfl) rfl #[.agg #[.int .i64 a0_0,.int .i64 a0_1,.slice A0_2 l0_2.length c0_2]] rfl mP ?_;(with_reducible refine (impl_ClockOk.calls k a0_0 a0_1 _ _ l0_2 true _ ?Zk ?Zq A2.out).mono ?_);(case Zk=>repeat (first | exact (Kd.V_reads' Za.out).2.2 | (with_reducible refine Kd.C_alloc ?_ _) | (with_reducible refine Kd.C_drewN ?_ _) | (with_reducible refine Kd.C_drew ?_)));(case Zq=>exact (Kd.V_reads' Za.out).2.1);rintro e w23 ⟨rfl,hb⟩;refine ⟨_,rfl,?_⟩;replace Za:=aQ (Kd.V_below (nV Za.out) hb);replace Zb:=aQ (blk_below (nB Zb.out) hb);replace Zc:=aQ (blk_below (nB Zc.out) hb);replace HB:=aQ (below_step bB hb);(try clear hb);obtain ⟨ZY,ZZ,Ya,Yb,Yc,Yd⟩:=cz3 Zb.out) | ((with_reducible refine gate_callee (f:=49) rfl ?_);refine goesL_ (some 12) rfl rfl Try.func49 (by kernel_rfl) rfl #[.agg #[.int .i64 a0_0,.int .i64 a0_1,.slice A0_2 l0_2.length c0_2]] rfl mP ?_;(with_reducible refine (impl_pass.calls k a0_0 a0_1 (fun k_=>(((P0_2_ k_ ∨ w.heap.size ≤ k_)∧k_ ≠ Zf)∧k_ ≠ Zd)) _ _ l0_2 t636 t637 t638 false _ ?Zk A4.out).mono ?_);(case Zk=>exact Za.out);rintro e w25 ⟨v639,rfl,ho0,hb⟩;refine ⟨_,rfl,?_⟩;replace Za:=aQ (Kd.V_elder' (nV Za.out) (Kd.N_base ho0) hb);have Zl:=aQ (Kd.N_lower (Kd.N_mono (ok':=fun k_=>(P0_2_ k_ ∨ w.heap.size ≤ k_)∧k_ ≠ Zf∧k_ ≠ Zd) ho0 (fun k_ hk_=>⟨Or.elim hk_ (fun hs_=>hs_.1.1) (fun hn_=>(.inr (Nat.le_trans (below_size bB) hn_))),Or.elim hk_ (fun hs_=>hs_.1.2) (fun hn_=>(Kd.freshB (nB Zb.out) k_ hn_)),Or.elim hk_ (fun hs_=>hs_.2) (fun hn_=>(Kd.freshB (nB Zc.out) k_ hn_))⟩)) (below_size bB));replace Zb:=aQ (blk_below (nB Zb.out) hb);replace Zc:=aQ (blk_below (nB Zc.out) hb);replace HB:=aQ (below_step bB hb);(try clear hb);(try clear ho0)) | ((with_reducible refine gate_dst (N:=4) rfl ?_);refine box1 (N:=4) (cs:=#[.int .i64 0,.int .i64 0,.slice none 0 0]) (t:=29) ?_;intro Zh hg w26 hbox hb;replace Za:=aQ (Kd.V_below (Kd.V_elderB (nV Za.out) Zh (Nat.le_of_eq hg.symm)) hb);replace Zl:=aQ (Kd.N_below (Kd.N_elderB (nN Zl.out) Zh (Nat.le_of_eq hg.symm)) hb);have Zr:=aQ (hbox);have Zs:=aQ (gB:w.heap.size ≤ Zh);have Zx:=Zs;replace HB:=aQ (below_step bB hb);have Zj:=aQ ((by rw [hg];exact Nat.ne_of_lt (blk_lt (nB Zb.out)):Zf ≠ Zh));have Zm:=aQ Zj.out.symm;replace Zb:=aQ (blk_below (nB Zb.out) hb);have Ze:=aQ ((by rw [hg];exact Nat.ne_of_lt (blk_lt (nB Zc.out)):Zd ≠ Zh));have Zn:=aQ Ze.out.symm;replace Zc:=aQ (blk_below (nB Zc.out) hb);clear hb hbox hg;have YO:=Zm.out;have YP:=Zj.out;have YQ:=Zn.out;have YR:=Ze.out;obtain ⟨Ye,Yf,Yg,Yh,Yi,Yj⟩:=cz3 Zr.out;obtain ⟨YW,YX,Zz⟩:=Kd.N_slice Zl.out;subst Zz;obtain ⟨Yk,Yl,Ym,Yn,Yo,Yp⟩:=cz3 Zc.out))
   refine bodyPost_ret (results_ct rfl _ _ Zd 29 #[.int .i64 0,.int .i64 0,.slice none 0 0] (0,0) _ rfl (by (with_reducible repeat (first | refine blk_drewN ?_ _ | refine blk_drew ?_ | refine blk_alloc ?_ _));refine blk_put (cs:=#[.int .i64 0,.int .i64 0,.slice none 0 0]) ?_ 2 _ rfl;(with_reducible repeat (first | refine blk_drewN ?_ _ | refine blk_drew ?_ | refine blk_alloc ?_ _));refine blk_put (cs:=#[.int .i64 0,.int .i64 0,.slice none 0 0]) ?_ 1 _ rfl;(with_reducible repeat (first | refine blk_drewN ?_ _ | refine blk_drew ?_ | refine blk_alloc ?_ _));refine blk_put (cs:=#[.int .i64 0,.int .i64 0,.slice none 0 0]) ?_ 0 _ rfl;(with_reducible repeat (first | refine blk_drewN ?_ _ | refine blk_drew ?_ | refine blk_alloc ?_ _));refine blk_far ?_ Ze.out _;(with_reducible repeat (first | refine blk_drewN ?_ _ | refine blk_drew ?_ | refine blk_alloc ?_ _));refine blk_far ?_ Ze.out _;(with_reducible repeat (first | refine blk_drewN ?_ _ | refine blk_drew ?_ | refine blk_alloc ?_ _));refine blk_far ?_ Ze.out _;(with_reducible repeat (first | refine blk_drewN ?_ _ | refine blk_drew ?_ | refine blk_alloc ?_ _));exact Zc.out) Try.underlying29 rfl (by kernel_rfl)) rfl ?_
   exact ⟨_,rfl,by first | exact Kd.R_nil _ _ _ _ _ | exact Kd.N_nil _ _ _ _ _ | exact Kd.V_nil _ _ _ _ _ | exact Kd.Q_nil _ _ _ _ _ | exact Kd.S_nil _ _ _ _ _,bB⟩
 ·replace c3:=Bool.eq_false_iff.mpr c3
  subst c3
  have H1:(some (0,0,([]:List (S29)),false)) = some (r1,r2,r3,r4):=by rw [if_neg (show ¬ (false = true) by decide)] at H;exact H
  clear H
  have H:=H1
  clear H1
  simp only [Option.some.injEq,Prod.mk.injEq] at H
  obtain ⟨rfl,rfl,rfl,rfl⟩:=H
  go_enter Try.func25,Try.ntmps25
  go_wp2_with (first | ((with_reducible refine gate_dst (N:=1) rfl ?_);refine box1 (N:=1) (cs:=#[.int .i64 a0_0,.int .i64 a0_1,.slice A0_2 l0_2.length c0_2]) (t:=29) ?_;intro Zf hg w32 hbox hb;replace Za:=aQ (Kd.V_below (Kd.V_elderB (nV Za.out) Zf (Nat.le_of_eq hg.symm)) hb);have Zb:=aQ (hbox);have Zo:=aQ (gB:w.heap.size ≤ Zf);have Zv:=Zo;replace HB:=aQ (below_step bB hb);clear hb hbox hg) | ((with_reducible refine gate_dst (N:=2) rfl ?_);refine box1 (N:=2) (cs:=#[.int .i64 0,.int .i64 0,.slice none 0 0]) (t:=29) ?_;intro Zd hg w33 hbox hb;replace Za:=aQ (Kd.V_below (Kd.V_elderB (nV Za.out) Zd (Nat.le_of_eq hg.symm)) hb);have Zc:=aQ (hbox);have Zp:=aQ (gB:w.heap.size ≤ Zd);have Zw:=Zp;replace HB:=aQ (below_step bB hb);have Zg:=aQ ((by rw [hg];exact Nat.ne_of_lt (blk_lt (nB Zb.out)):Zf ≠ Zd));have Zi:=aQ Zg.out.symm;replace Zb:=aQ (blk_below (nB Zb.out) hb);clear hb hbox hg;have YS:=Zg.out;have YT:=Zi.out;obtain ⟨Yq,Yr,Ys,Yt,Yu,Yv⟩:=cz3 Zb.out) | ((with_reducible refine gate_callee (f:=16) rfl ?_);refine goesL_ (some 7) rfl rfl Try.func16 (by kernel_rfl) rfl #[.agg #[.int .i64 a0_0,.int .i64 a0_1,.slice A0_2 l0_2.length c0_2]] rfl mP ?_;(with_reducible refine (impl_ClockOk.calls k a0_0 a0_1 _ _ l0_2 false _ ?Zk ?Zq A2.out).mono ?_);(case Zk=>repeat (first | exact (Kd.V_reads' Za.out).2.2 | (with_reducible refine Kd.C_alloc ?_ _) | (with_reducible refine Kd.C_drewN ?_ _) | (with_reducible refine Kd.C_drew ?_)));(case Zq=>exact (Kd.V_reads' Za.out).2.1);rintro e w36 ⟨rfl,hb⟩;refine ⟨_,rfl,?_⟩;replace Za:=aQ (Kd.V_below (nV Za.out) hb);replace Zb:=aQ (blk_below (nB Zb.out) hb);replace Zc:=aQ (blk_below (nB Zc.out) hb);replace HB:=aQ (below_step bB hb);(try clear hb);obtain ⟨Yw,Yx,Yy,Yz,YA,YB⟩:=cz3 Zc.out))
  refine bodyPost_ret (results_ct rfl _ _ Zd 29 #[.int .i64 0,.int .i64 0,.slice none 0 0] (0,0) _ rfl bP Try.underlying29 rfl (by kernel_rfl)) rfl ?_
  exact ⟨_,rfl,by first | exact Kd.R_nil _ _ _ _ _ | exact Kd.N_nil _ _ _ _ _ | exact Kd.V_nil _ _ _ _ _ | exact Kd.Q_nil _ _ _ _ _ | exact Kd.S_nil _ _ _ _ _,bB⟩
mutual
def impl_ClockLater.j0:Nat → Int → Bool → Int → Int → List (S29) → Option (Int × Int × (List (S29)) × Bool)
 | 0,_,_,_,_,_=>none
 | k + 1,x1,x18,x817000,x817001,x817002=>if x18 = true then (some (0,0,([]:List (S29)),false)) else ((impl_copyClock.f k x817000 x817001 x817002).bind fun bt819=>(impl_ClockLater.l0 k x1 bt819.1 bt819.2.1 bt819.2.2))
def impl_ClockLater.l0:Nat → Int → Int → Int → List (S29) → Option (Int × Int × (List (S29)) × Bool)
 | 0,_,_,_,_=>none
 | k + 1,x1,x817000,x817001,x817002=>if x1 > 0 then ((impl_pass.f k x817000 x817001 x817002).bind fun bt824=>(if bt824.2.2.2 = true then (impl_ClockLater.l0 k (wrap64 (x1 - 1)) bt824.1 bt824.2.1 bt824.2.2.1) else (some (0,0,([]:List (S29)),false)))) else (some (x817000,x817001,x817002,true))
end
def impl_ClockLater.f (k:Nat) (a0_0:Int) (a0_1:Int) (l0_2:List (S29)) (a1:Int):Option (Int × Int × (List (S29)) × Bool):=(impl_ClockOk.f k a0_0 a0_1 l0_2).bind fun t818=>(if t818 = true then (if a1 < 0 then (impl_ClockLater.j0 k a1 true a0_0 a0_1 l0_2) else (impl_ClockLater.j0 k a1 (decide (a1 > 100)) a0_0 a0_1 l0_2)) else (impl_ClockLater.j0 k a1 true a0_0 a0_1 l0_2))
theorem impl_ClockLater.mono_l:∀ k,(∀ y0 y1 y2 y3 y4,LeO (impl_ClockLater.j0 k y0 y1 y2 y3 y4) (impl_ClockLater.j0 (k + 1) y0 y1 y2 y3 y4))∧(∀ y0 y1 y2 y3,LeO (impl_ClockLater.l0 k y0 y1 y2 y3) (impl_ClockLater.l0 (k + 1) y0 y1 y2 y3))
 | 0=>⟨fun _ _ _ _ _ r h=>by simp [impl_ClockLater.j0] at h,fun _ _ _ _ r h=>by simp [impl_ClockLater.l0] at h⟩
 | k + 1=>by
  obtain ⟨ih0,ih1⟩:=impl_ClockLater.mono_l k
  refine ⟨?_,?_⟩
  ·intro y0 y1 y2 y3 y4
   unfold impl_ClockLater.j0
   repeat' first
   | (with_reducible exact ih0 _ _ _ _ _)
   | (with_reducible exact ih1 _ _ _ _)
   | (with_reducible exact impl_ClockOk.mono _ _ _ _)
   | (with_reducible exact impl_copyClock.mono _ _ _ _)
   | (with_reducible exact impl_pass.mono _ _ _ _)
   | (with_reducible exact LeO.refl _)
   | (with_reducible exact LeO.none _)
   | (with_reducible refine LeO.ite ?_ ?_)
   | (with_reducible refine LeO.bind ?_ (fun _=>?_))
   | exact ih0 _ _ _ _ _
   | exact ih1 _ _ _ _
   | exact impl_ClockOk.mono _ _ _ _
   | exact impl_copyClock.mono _ _ _ _
   | exact impl_pass.mono _ _ _ _
   | exact LeO.none _
   | refine LeO.ite ?_ ?_
   | refine LeO.bind ?_ (fun _=>?_)
  ·intro y0 y1 y2 y3
   unfold impl_ClockLater.l0
   repeat' first
   | (with_reducible exact ih0 _ _ _ _ _)
   | (with_reducible exact ih1 _ _ _ _)
   | (with_reducible exact impl_ClockOk.mono _ _ _ _)
   | (with_reducible exact impl_copyClock.mono _ _ _ _)
   | (with_reducible exact impl_pass.mono _ _ _ _)
   | (with_reducible exact LeO.refl _)
   | (with_reducible exact LeO.none _)
   | (with_reducible refine LeO.ite ?_ ?_)
   | (with_reducible refine LeO.bind ?_ (fun _=>?_))
   | exact ih0 _ _ _ _ _
   | exact ih1 _ _ _ _
   | exact impl_ClockOk.mono _ _ _ _
   | exact impl_copyClock.mono _ _ _ _
   | exact impl_pass.mono _ _ _ _
   | exact LeO.none _
   | refine LeO.ite ?_ ?_
   | refine LeO.bind ?_ (fun _=>?_)
theorem impl_ClockLater.mono:∀ a0 a1 a2 a3 k,LeO (impl_ClockLater.f k a0 a1 a2 a3) (impl_ClockLater.f (k + 1) a0 a1 a2 a3):=by
 intro a0 a1 a2 a3 k
 obtain ⟨ih0,ih1⟩:=impl_ClockLater.mono_l k
 unfold impl_ClockLater.f
 repeat' first
   | (with_reducible exact ih0 _ _ _ _ _)
   | (with_reducible exact ih1 _ _ _ _)
   | (with_reducible exact impl_ClockOk.mono _ _ _ _)
   | (with_reducible exact impl_copyClock.mono _ _ _ _)
   | (with_reducible exact impl_pass.mono _ _ _ _)
   | (with_reducible exact LeO.refl _)
   | (with_reducible exact LeO.none _)
   | (with_reducible refine LeO.ite ?_ ?_)
   | (with_reducible refine LeO.bind ?_ (fun _=>?_))
   | exact ih0 _ _ _ _ _
   | exact ih1 _ _ _ _
   | exact impl_ClockOk.mono _ _ _ _
   | exact impl_copyClock.mono _ _ _ _
   | exact impl_pass.mono _ _ _ _
   | exact LeO.none _
   | refine LeO.ite ?_ ?_
   | refine LeO.bind ?_ (fun _=>?_)
set_option maxHeartbeats 8000000 in
set_option maxRecDepth 100000 in
theorem impl_ClockLater.calls (k:Nat) (a0_0:Int) (a0_1:Int) (A0_2:Option Addr) (c0_2:Nat) (l0_2:List (S29)) (a1:Int) (r1:Int) (r2:Int) (r3:List (S29)) (r4:Bool) (w:World) (hr0_2:Kd.C k29 w A0_2 l0_2.length l0_2) (hc0_2:l0_2.length ≤ c0_2) (h:impl_ClockLater.f k a0_0 a0_1 l0_2 a1 = some (r1,r2,r3,r4)) :
  Calls Try.prog 34 #[.agg #[.int .i64 a0_0,.int .i64 a0_1,.slice A0_2 l0_2.length c0_2],.int .i64 a1] w fun e w'=>∃ v2_:Value,e = .returned (.tuple #[.agg #[.int .i64 r1,.int .i64 r2,v2_],.bool r4])∧Kd.N k29 29 w' w.heap.size (fun k_=>(w.heap.size ≤ k_)) v2_ r3∧Below w.heap.size w w':=by
 have hu29:=Try.underlying29
 have Zp:=aQ hr0_2
 have Zq:=aQ hc0_2
 clear hr0_2 hc0_2
 have HB:=aQ (Below.refl w.heap.size w)
 have H:=h
 clear h
 have ZK:=aQ H
 clear H
 go_enter Try.func34,Try.ntmps34
 go_upto_region 1 with (first | ((with_reducible refine gate_dst (N:=2) rfl ?_);refine box1 (N:=2) (cs:=#[.int .i64 a0_0,.int .i64 a0_1,.slice A0_2 l0_2.length c0_2]) (t:=29) ?_;intro Zd hg w4 hbox hb;have Za:=aQ (hbox);have ZL:=aQ (gB:w.heap.size ≤ Zd);have Xu:=ZL;replace HB:=aQ (below_step bB hb);clear hb hbox hg) | ((with_reducible refine gate_dst (N:=4) rfl ?_);refine box1 (N:=4) (cs:=#[.int .i64 0,.int .i64 0,.slice none 0 0]) (t:=29) ?_;intro Zf hg w5 hbox hb;have Zb:=aQ (hbox);have ZM:=aQ (gB:w.heap.size ≤ Zf);have Xv:=ZM;replace HB:=aQ (below_step bB hb);have Ze:=aQ ((by rw [hg];exact Nat.ne_of_lt (blk_lt (nB Za.out)):Zd ≠ Zf));have Zg:=aQ Ze.out.symm;replace Za:=aQ (blk_below (nB Za.out) hb);clear hb hbox hg))
 (try simp only [Act.put,List.setIfInBounds_toArray,List.set_cons_zero,List.set_cons_succ])
 go_cut [18] (fun v18 wc=>∃ (kq:Nat) (x18_2:Bool),v18 = .bool x18_2∧Aside0 (impl_ClockLater.j0 kq a1 x18_2 a0_0 a0_1 l0_2 = some (r1,r2,r3,r4))∧Aside0 (kq ≤ k)∧Aside0 (wc.heap[Zd]? = some (.cells #[.int .i64 a0_0,.int .i64 a0_1,(.slice A0_2 l0_2.length c0_2)] 29 (0,0)))∧Aside0 (wc.heap[Zf]? = some (.cells #[.int .i64 0,.int .i64 0,(.slice none 0 0)] 29 (0,0)))∧Aside0 (Below w.heap.size w wc))
 case first =>
  have H:=ZK.out
  clear ZK
  obtain ⟨t818,A6,H⟩:=bQ H
  (try dsimp only at H)
  by_cases c7:t818 = true
  ·subst c7
   have H1:(if a1 < 0 then (impl_ClockLater.j0 k a1 true a0_0 a0_1 l0_2) else (impl_ClockLater.j0 k a1 (decide (a1 > 100)) a0_0 a0_1 l0_2)) = some (r1,r2,r3,r4):=by rw [if_pos rfl] at H;exact H
   clear H
   have H:=H1
   clear H1
   by_cases c8:a1 < 0
   ·rw [if_pos c8] at H
    have c8b0:decide (a1 < 0) = true:=decide_eq_true c8
    clear c8
    (first | rw [c8b0] | (simp only [i64_w,i32_w];rw [c8b0]) | skip)
    have H':=aQ H
    clear H
    have XS:=Ze.out
    have XT:=Zg.out
    obtain ⟨Ya,Yb,Yc,Yd,Ye,Yf⟩:=cz3 Za.out
    go_wp2_with (first | ((with_reducible refine gate_callee (f:=16) rfl ?_);refine goesL_ (some 9) rfl rfl Try.func16 (by kernel_rfl) rfl #[.agg #[.int .i64 a0_0,.int .i64 a0_1,.slice A0_2 l0_2.length c0_2]] rfl mP ?_;(with_reducible refine (impl_ClockOk.calls k a0_0 a0_1 _ _ l0_2 true _ ?Zk ?Zm A6.out).mono ?_);(case Zk=>repeat (first | exact (Kd.C_below Zp.out HB.out) | (with_reducible refine Kd.C_alloc ?_ _) | (with_reducible refine Kd.C_drewN ?_ _) | (with_reducible refine Kd.C_drew ?_)));(case Zm=>exact Zq.out);rintro e w11 ⟨rfl,hb⟩;refine ⟨_,rfl,?_⟩;replace Za:=aQ (blk_below (nB Za.out) hb);replace Zb:=aQ (blk_below (nB Zb.out) hb);replace HB:=aQ (below_step bB hb);(try clear hb)))
    go_meet
    case rel=>exact ⟨_,(true),rfl,H',⟨by first | omega | exact Nat.le_refl _⟩,⟨nB Za.out⟩,⟨nB Zb.out⟩,⟨bB⟩⟩
   rw [if_neg c8] at H
   have c8b0:decide (a1 < 0) = false:=decide_eq_false c8
   clear c8
   (first | rw [c8b0] | (simp only [i64_w,i32_w];rw [c8b0]) | skip)
   have H':=aQ H
   clear H
   have Xw:=Ze.out
   have Xx:=Zg.out
   obtain ⟨Yg,Yh,Yi,Yj,Yk,Yl⟩:=cz3 Za.out
   go_wp2_with (first | ((with_reducible refine gate_callee (f:=16) rfl ?_);refine goesL_ (some 9) rfl rfl Try.func16 (by kernel_rfl) rfl #[.agg #[.int .i64 a0_0,.int .i64 a0_1,.slice A0_2 l0_2.length c0_2]] rfl mP ?_;(with_reducible refine (impl_ClockOk.calls k a0_0 a0_1 _ _ l0_2 true _ ?Zk ?Zm A6.out).mono ?_);(case Zk=>repeat (first | exact (Kd.C_below Zp.out HB.out) | (with_reducible refine Kd.C_alloc ?_ _) | (with_reducible refine Kd.C_drewN ?_ _) | (with_reducible refine Kd.C_drew ?_)));(case Zm=>exact Zq.out);rintro e w14 ⟨rfl,hb⟩;refine ⟨_,rfl,?_⟩;replace Za:=aQ (blk_below (nB Za.out) hb);replace Zb:=aQ (blk_below (nB Zb.out) hb);replace HB:=aQ (below_step bB hb);(try clear hb)))
   go_meet
   case rel=>exact ⟨_,(decide (a1 > 100)),rfl,H',⟨by first | omega | exact Nat.le_refl _⟩,⟨nB Za.out⟩,⟨nB Zb.out⟩,⟨bB⟩⟩
  ·replace c7:=Bool.eq_false_iff.mpr c7
   subst c7
   have H1:(impl_ClockLater.j0 k a1 true a0_0 a0_1 l0_2) = some (r1,r2,r3,r4):=by rw [if_neg (show ¬ (false = true) by decide)] at H;exact H
   clear H
   have H:=H1
   clear H1
   have H':=aQ H
   clear H
   have Xy:=Ze.out
   have Xz:=Zg.out
   obtain ⟨Ym,Yn,Yo,Yp,Yq,Yr⟩:=cz3 Za.out
   go_wp2_with (first | ((with_reducible refine gate_callee (f:=16) rfl ?_);refine goesL_ (some 9) rfl rfl Try.func16 (by kernel_rfl) rfl #[.agg #[.int .i64 a0_0,.int .i64 a0_1,.slice A0_2 l0_2.length c0_2]] rfl mP ?_;(with_reducible refine (impl_ClockOk.calls k a0_0 a0_1 _ _ l0_2 false _ ?Zk ?Zm A6.out).mono ?_);(case Zk=>repeat (first | exact (Kd.C_below Zp.out HB.out) | (with_reducible refine Kd.C_alloc ?_ _) | (with_reducible refine Kd.C_drewN ?_ _) | (with_reducible refine Kd.C_drew ?_)));(case Zm=>exact Zq.out);rintro e w17 ⟨rfl,hb⟩;refine ⟨_,rfl,?_⟩;replace Za:=aQ (blk_below (nB Za.out) hb);replace Zb:=aQ (blk_below (nB Zb.out) hb);replace HB:=aQ (below_step bB hb);(try clear hb)))
   go_meet
   case rel=>exact ⟨_,(true),rfl,H',⟨by first | omega | exact Nat.le_refl _⟩,⟨nB Za.out⟩,⟨nB Zb.out⟩,⟨bB⟩⟩
 case rest =>
  clear ZK
  obtain ⟨kq,x18_2,rfl,HA,HJ2,Za,Zb,HB⟩:=hcut
  cases kq with
  | zero=>exact absurd HA.out (by simp [impl_ClockLater.j0])
  | succ kj2 =>
   have H:=HA.out
   clear HA
   simp only [impl_ClockLater.j0] at H
   by_cases c18:x18_2 = true
   ·subst c18
    have H1:(some (0,0,([]:List (S29)),false)) = some (r1,r2,r3,r4):=by rw [if_pos rfl] at H;exact H
    clear H
    have H:=H1
    clear H1
    simp only [Option.some.injEq,Prod.mk.injEq] at H
    obtain ⟨rfl,rfl,rfl,rfl⟩:=H
    have XA:=Zg.out
    have XB:=Ze.out
    obtain ⟨Ys,Yt,Yu,Yv,Yw,Yx⟩:=cz3 Zb.out
    go_wp2
    refine bodyPost_ret (results_ct rfl _ _ Zf 29 #[.int .i64 0,.int .i64 0,.slice none 0 0] (0,0) _ rfl bP Try.underlying29 rfl (by kernel_rfl)) rfl ?_
    exact ⟨_,rfl,by first | exact Kd.R_nil _ _ _ _ _ | exact Kd.N_nil _ _ _ _ _ | exact Kd.V_nil _ _ _ _ _ | exact Kd.Q_nil _ _ _ _ _ | exact Kd.S_nil _ _ _ _ _,bB⟩
   ·replace c18:=Bool.eq_false_iff.mpr c18
    subst c18
    have H1:((impl_copyClock.f kj2 a0_0 a0_1 l0_2).bind fun bt819=>(impl_ClockLater.l0 kj2 a1 bt819.1 bt819.2.1 bt819.2.2)) = some (r1,r2,r3,r4):=by rw [if_neg (show ¬ (false = true) by decide)] at H;exact H
    clear H
    have H:=H1
    clear H1
    obtain ⟨⟨t819,t820,t821⟩,A21,H⟩:=bQ H
    dsimp only at H
    have H':=aQ H
    clear H
    have XC:=Ze.out
    have XD:=Zg.out
    obtain ⟨Zy,Zz,ZA,ZB,ZC,ZD⟩:=cz3 Za.out
    go_wp2_with (first | ((with_reducible refine gate_callee (f:=48) rfl ?_);refine goesL_ (some 21) rfl rfl Try.func48 (by kernel_rfl) rfl #[.agg #[.int .i64 a0_0,.int .i64 a0_1,.slice A0_2 l0_2.length c0_2]] rfl mP ?_;(with_reducible refine (impl_copyClock.calls kj2 a0_0 a0_1 _ _ l0_2 t819 t820 t821 _ ?Zk ?Zm A21.out).mono ?_);(case Zk=>repeat (first | exact (Kd.C_below Zp.out HB.out) | (with_reducible refine Kd.C_alloc ?_ _) | (with_reducible refine Kd.C_drewN ?_ _) | (with_reducible refine Kd.C_drew ?_)));(case Zm=>exact Zq.out);rintro e w24 ⟨v822,rfl,ho0,hb⟩;refine ⟨_,rfl,?_⟩;have Zx:=aQ (Kd.N_lower (Kd.N_mono (ok':=fun k_=>(w.heap.size ≤ k_)∧k_ ≠ Zd∧k_ ≠ Zf) ho0 (fun k_ hk_=>⟨(Nat.le_trans (below_size bB) hk_),(Kd.freshB (nB Za.out) k_ hk_),(Kd.freshB (nB Zb.out) k_ hk_)⟩)) (below_size bB));replace Za:=aQ (blk_below (nB Za.out) hb);replace Zb:=aQ (blk_below (nB Zb.out) hb);replace HB:=aQ (below_step bB hb);(try clear hb);(try clear ho0);obtain ⟨ZE,ZF,ZG,ZH,ZI,ZJ⟩:=cz3 Za.out;obtain ⟨ZO,ZP,ZQ⟩:=Kd.N_slice Zx.out;subst ZQ))
    go_loopg [1] kj2 (fun kq v1 w'=>∃ (x1_2:Int) (x817000_2:Int) (x817001_2:Int) (x817002_2:List (S29)) (x818000_2:Int) (x818001_2:Int) (u817002:Value),v1 = .int .i64 x1_2∧Aside0 (impl_ClockLater.l0 kq x1_2 x817000_2 x817001_2 x817002_2 = some (r1,r2,r3,r4))∧Aside0 (kq ≤ kj2)∧Aside0 (Kd.N k29 29 w' w.heap.size (fun k_=>(w.heap.size ≤ k_)∧k_ ≠ Zd∧k_ ≠ Zf) u817002 x817002_2)∧Aside0 (w'.heap[Zd]? = some (.cells #[.int .i64 x817000_2,.int .i64 x817001_2,u817002] 29 (0,0)))∧Aside0 (w'.heap[Zf]? = some (.cells #[.int .i64 x818000_2,.int .i64 x818001_2,(.slice none 0 0)] 29 (0,0)))∧Aside0 (Below w.heap.size w w'))
    case atStart=>exact ⟨(a1),(t819),(t820),(t821),(0),(0),(.slice ZO t821.length ZP),rfl,H',⟨Nat.le_refl _⟩,⟨Kd.N_mono (nFN (g:=Zd) Zx.out (fun k_ hk=>hk.2.1)) (fun _ hk=>⟨hk.1,⟨hk.2.1,hk.2.2⟩⟩)⟩,⟨bP⟩,⟨bF⟩,⟨bB⟩⟩
    case round =>
     clear H'
     try clear Zy
     try clear Zz
     try clear ZA
     try clear ZE
     try clear ZF
     try clear ZG
     try clear ZB
     try clear ZC
     try clear ZD
     try clear ZH
     try clear ZI
     try clear ZJ
     repeat (first | clear Zc | clear Za | clear Zb | clear HB)
     obtain ⟨x1_2,x817000_2,x817001_2,x817002_2,x818000_2,x818001_2,u817002,rfl,HA,HK2,Zc,Za,Zb,HB⟩:=hrel
     cases gk with
     | zero=>exact absurd HA.out (by simp [impl_ClockLater.l0])
     | succ k2 =>
      have H:=HA.out
      clear HA
      simp only [impl_ClockLater.l0] at H
      by_cases c27:x1_2 > 0;rotate_left
      ·rw [if_neg c27] at H
       have c27b0:decide (0 < x1_2) = false:=decide_eq_false c27
       clear c27
       simp only [Option.some.injEq,Prod.mk.injEq] at H
       obtain ⟨rfl,rfl,rfl,rfl⟩:=H
       have XE:=Ze.out
       have XF:=Zg.out
       obtain ⟨Yy,Yz,YA,YB,YC,YD⟩:=cz3 Za.out
       obtain ⟨YE,YF,YG,YH,YI,YJ⟩:=cz3 Zb.out
       obtain ⟨ZR,ZS,ZT⟩:=Kd.N_slice Zc.out
       subst ZT
       go_wp2
       refine bodyPost_ret (results_ct rfl _ _ Zf 29 #[.int .i64 x817000_2,.int .i64 x817001_2,.slice ZR x817002_2.length ZS] (0,0) _ rfl bP Try.underlying29 rfl (by kernel_rfl)) rfl ?_
       exact ⟨_,rfl,by (with_reducible repeat (first | apply Kd.N_alloc | apply Kd.N_drewN | apply Kd.N_drew));exact Kd.N_mono (nFN (g:=Zf) Zc.out (fun k_ hk=>hk.2.2)) (fun _ hk=>hk.1),bB⟩
      rw [if_pos c27] at H
      have c27b0:decide (0 < x1_2) = true:=decide_eq_true c27
      clear c27
      obtain ⟨⟨t824,t825,t826,t829⟩,A28,H⟩:=bQ H
      dsimp only at H
      by_cases c29:t829 = true
      ·subst c29
       have H1:(impl_ClockLater.l0 k2 (wrap64 (x1_2 - 1)) t824 t825 t826) = some (r1,r2,r3,r4):=by rw [if_pos rfl] at H;exact H
       clear H
       have H:=H1
       clear H1
       have H':=aQ H
       clear H
       have XG:=Ze.out
       have XH:=Zg.out
       obtain ⟨YK,YL,YM,YN,YO,YP⟩:=cz3 Za.out
       obtain ⟨Zr,Zs,ZU⟩:=Kd.N_slice Zc.out
       subst ZU
       go_wp2_with (first | ((with_reducible refine gate_callee (f:=49) rfl ?_);refine goesL_ (some 28) rfl rfl Try.func49 (by kernel_rfl) rfl #[.agg #[.int .i64 x817000_2,.int .i64 x817001_2,.slice Zr x817002_2.length Zs]] rfl mP ?_;(with_reducible refine (impl_pass.calls k2 x817000_2 x817001_2 (fun k_=>((w.heap.size ≤ k_)∧(k_ ≠ Zd∧k_ ≠ Zf))) _ _ x817002_2 t824 t825 t826 true _ ?Zk A28.out).mono ?_);(case Zk=>exact Kd.N_V (Zc.out));rintro e w33 ⟨v827,rfl,ho0,hb⟩;refine ⟨_,rfl,?_⟩;replace Zc:=aQ (Kd.N_elder' (nN Zc.out) (Kd.N_base ho0) hb);have Zl:=aQ (Kd.N_lower (Kd.N_mono (ok':=fun k_=>(w.heap.size ≤ k_)∧k_ ≠ Zd∧k_ ≠ Zf) ho0 (fun k_ hk_=>⟨Or.elim hk_ (fun hs_=>hs_.1) (fun hn_=>(Nat.le_trans (below_size bB) hn_)),Or.elim hk_ (fun hs_=>hs_.2.1) (fun hn_=>(Kd.freshB (nB Za.out) k_ hn_)),Or.elim hk_ (fun hs_=>hs_.2.2) (fun hn_=>(Kd.freshB (nB Zb.out) k_ hn_))⟩)) (below_size bB));replace Za:=aQ (blk_below (nB Za.out) hb);replace Zb:=aQ (blk_below (nB Zb.out) hb);replace HB:=aQ (below_step bB hb);(try clear hb);(try clear ho0)) | ((with_reducible refine gate_dst (N:=6) rfl ?_);refine box1 (N:=6) (cs:=#[.int .i64 0,.int .i64 0,.slice none 0 0]) (t:=29) ?_;intro Zj hg w34 hbox hb;replace Zc:=aQ (Kd.N_below (Kd.N_elderB (nN Zc.out) Zj (Nat.le_of_eq hg.symm)) hb);replace Zl:=aQ (Kd.N_below (Kd.N_elderB (nN Zl.out) Zj (Nat.le_of_eq hg.symm)) hb);have Zt:=aQ (hbox);have Zu:=aQ (gB:w.heap.size ≤ Zj);have ZN:=Zu;replace HB:=aQ (below_step bB hb);have Zh:=aQ ((by rw [hg];exact Nat.ne_of_lt (blk_lt (nB Za.out)):Zd ≠ Zj));have Zn:=aQ Zh.out.symm;replace Za:=aQ (blk_below (nB Za.out) hb);have Zi:=aQ ((by rw [hg];exact Nat.ne_of_lt (blk_lt (nB Zb.out)):Zf ≠ Zj));have Zo:=aQ Zi.out.symm;replace Zb:=aQ (blk_below (nB Zb.out) hb);clear hb hbox hg;have XI:=Zn.out;have XJ:=Zh.out;have XK:=Zo.out;have XL:=Zi.out;obtain ⟨YQ,YR,YS,YT,YU,YV⟩:=cz3 Zt.out;obtain ⟨Zv,Zw,ZV⟩:=Kd.N_slice Zl.out;subst ZV;obtain ⟨YW,YX,YY,YZ,Xa,Xb⟩:=cz3 Za.out))
       go_roundg k2
       case measure=>have:=HJ2.out;have:=HK2.out;omega
       case rel=>exact ⟨(wrap64 (x1_2 - 1)),(t824),(t825),(t826),(x818000_2),(x818001_2),(.slice Zv t826.length Zw),rfl,H',⟨by have:=HJ2.out;have:=HK2.out;omega⟩,⟨nN (Kd.N_mono (Kd.N_far (p:=⟨Zd,2,none⟩) (Kd.N_far (p:=⟨Zd,1,none⟩) (Kd.N_far (p:=⟨Zd,0,none⟩) (Kd.N_far (p:=⟨Zj,2,none⟩) (Kd.N_far (p:=⟨Zj,1,none⟩) (Kd.N_far (p:=⟨Zj,0,none⟩) (Kd.N_mono (Kd.N_mono Zl.out (fun k_ hk=>(⟨hk,hk.2⟩:_∧k_ ≠ Zj))) (fun k_ hk=>(⟨hk,hk.1.1.2.1⟩:_∧k_ ≠ Zd))) (fun _ hk=>hk.1.2) (.int .i64 t824)) (fun _ hk=>hk.1.2) (.int .i64 t825)) (fun _ hk=>hk.1.2) (.slice Zv t826.length Zw)) (fun _ hk=>hk.2) (.int .i64 t824)) (fun _ hk=>hk.2) (.int .i64 t825)) (fun _ hk=>hk.2) (.slice Zv t826.length Zw)) (fun _ hk=>⟨hk.1.1.1.1,⟨hk.1.1.1.2.1,hk.1.1.1.2.2⟩⟩))⟩,⟨by (with_reducible repeat (first | refine blk_drewN ?_ _ | refine blk_drew ?_ | refine blk_alloc ?_ _));refine blk_put (cs:=#[.int .i64 t824,.int .i64 t825,.slice Zr x817002_2.length Zs]) ?_ 2 _ rfl;(with_reducible repeat (first | refine blk_drewN ?_ _ | refine blk_drew ?_ | refine blk_alloc ?_ _));refine blk_put (cs:=#[.int .i64 t824,.int .i64 x817001_2,.slice Zr x817002_2.length Zs]) ?_ 1 _ rfl;(with_reducible repeat (first | refine blk_drewN ?_ _ | refine blk_drew ?_ | refine blk_alloc ?_ _));refine blk_put (cs:=#[.int .i64 x817000_2,.int .i64 x817001_2,.slice Zr x817002_2.length Zs]) ?_ 0 _ rfl;(with_reducible repeat (first | refine blk_drewN ?_ _ | refine blk_drew ?_ | refine blk_alloc ?_ _));refine blk_far ?_ Zh.out _;(with_reducible repeat (first | refine blk_drewN ?_ _ | refine blk_drew ?_ | refine blk_alloc ?_ _));refine blk_far ?_ Zh.out _;(with_reducible repeat (first | refine blk_drewN ?_ _ | refine blk_drew ?_ | refine blk_alloc ?_ _));refine blk_far ?_ Zh.out _;(with_reducible repeat (first | refine blk_drewN ?_ _ | refine blk_drew ?_ | refine blk_alloc ?_ _));exact Za.out⟩,⟨bF⟩,⟨bB⟩⟩
      ·replace c29:=Bool.eq_false_iff.mpr c29
       subst c29
       have H1:(some (0,0,([]:List (S29)),false)) = some (r1,r2,r3,r4):=by rw [if_neg (show ¬ (false = true) by decide)] at H;exact H
       clear H
       have H:=H1
       clear H1
       simp only [Option.some.injEq,Prod.mk.injEq] at H
       obtain ⟨rfl,rfl,rfl,rfl⟩:=H
       have XM:=Ze.out
       have XN:=Zg.out
       obtain ⟨Xc,Xd,Xe,Xf,Xg,Xh⟩:=cz3 Za.out
       obtain ⟨ZW,ZX,ZY⟩:=Kd.N_slice Zc.out
       subst ZY
       go_wp2_with (first | ((with_reducible refine gate_callee (f:=49) rfl ?_);refine goesL_ (some 28) rfl rfl Try.func49 (by kernel_rfl) rfl #[.agg #[.int .i64 x817000_2,.int .i64 x817001_2,.slice ZW x817002_2.length ZX]] rfl mP ?_;(with_reducible refine (impl_pass.calls k2 x817000_2 x817001_2 (fun k_=>((w.heap.size ≤ k_)∧(k_ ≠ Zd∧k_ ≠ Zf))) _ _ x817002_2 t824 t825 t826 false _ ?Zk A28.out).mono ?_);(case Zk=>exact Kd.N_V (Zc.out));rintro e w43 ⟨v827,rfl,ho0,hb⟩;refine ⟨_,rfl,?_⟩;replace Zc:=aQ (Kd.N_elder' (nN Zc.out) (Kd.N_base ho0) hb);have Zl:=aQ (Kd.N_lower (Kd.N_mono (ok':=fun k_=>(w.heap.size ≤ k_)∧k_ ≠ Zd∧k_ ≠ Zf) ho0 (fun k_ hk_=>⟨Or.elim hk_ (fun hs_=>hs_.1) (fun hn_=>(Nat.le_trans (below_size bB) hn_)),Or.elim hk_ (fun hs_=>hs_.2.1) (fun hn_=>(Kd.freshB (nB Za.out) k_ hn_)),Or.elim hk_ (fun hs_=>hs_.2.2) (fun hn_=>(Kd.freshB (nB Zb.out) k_ hn_))⟩)) (below_size bB));replace Za:=aQ (blk_below (nB Za.out) hb);replace Zb:=aQ (blk_below (nB Zb.out) hb);replace HB:=aQ (below_step bB hb);(try clear hb);(try clear ho0)) | ((with_reducible refine gate_dst (N:=6) rfl ?_);refine box1 (N:=6) (cs:=#[.int .i64 0,.int .i64 0,.slice none 0 0]) (t:=29) ?_;intro Zj hg w44 hbox hb;replace Zc:=aQ (Kd.N_below (Kd.N_elderB (nN Zc.out) Zj (Nat.le_of_eq hg.symm)) hb);replace Zl:=aQ (Kd.N_below (Kd.N_elderB (nN Zl.out) Zj (Nat.le_of_eq hg.symm)) hb);have Zt:=aQ (hbox);have Zu:=aQ (gB:w.heap.size ≤ Zj);have ZN:=Zu;replace HB:=aQ (below_step bB hb);have Zh:=aQ ((by rw [hg];exact Nat.ne_of_lt (blk_lt (nB Za.out)):Zd ≠ Zj));have Zn:=aQ Zh.out.symm;replace Za:=aQ (blk_below (nB Za.out) hb);have Zi:=aQ ((by rw [hg];exact Nat.ne_of_lt (blk_lt (nB Zb.out)):Zf ≠ Zj));have Zo:=aQ Zi.out.symm;replace Zb:=aQ (blk_below (nB Zb.out) hb);clear hb hbox hg;have XO:=Zn.out;have XP:=Zh.out;have XQ:=Zo.out;have XR:=Zi.out;obtain ⟨Xi,Xj,Xk,Xl,Xm,Xn⟩:=cz3 Zt.out;obtain ⟨XU,XV,ZZ⟩:=Kd.N_slice Zl.out;subst ZZ;obtain ⟨Xo,Xp,Xq,Xr,Xs,Xt⟩:=cz3 Zb.out))
       refine bodyPost_ret (results_ct rfl _ _ Zf 29 #[.int .i64 0,.int .i64 0,.slice none 0 0] (0,0) _ rfl (by (with_reducible repeat (first | refine blk_drewN ?_ _ | refine blk_drew ?_ | refine blk_alloc ?_ _));refine blk_put (cs:=#[.int .i64 0,.int .i64 0,.slice none 0 0]) ?_ 2 _ rfl;(with_reducible repeat (first | refine blk_drewN ?_ _ | refine blk_drew ?_ | refine blk_alloc ?_ _));refine blk_put (cs:=#[.int .i64 0,.int .i64 x818001_2,.slice none 0 0]) ?_ 1 _ rfl;(with_reducible repeat (first | refine blk_drewN ?_ _ | refine blk_drew ?_ | refine blk_alloc ?_ _));refine blk_put (cs:=#[.int .i64 x818000_2,.int .i64 x818001_2,.slice none 0 0]) ?_ 0 _ rfl;(with_reducible repeat (first | refine blk_drewN ?_ _ | refine blk_drew ?_ | refine blk_alloc ?_ _));refine blk_far ?_ Zi.out _;(with_reducible repeat (first | refine blk_drewN ?_ _ | refine blk_drew ?_ | refine blk_alloc ?_ _));refine blk_far ?_ Zi.out _;(with_reducible repeat (first | refine blk_drewN ?_ _ | refine blk_drew ?_ | refine blk_alloc ?_ _));refine blk_far ?_ Zi.out _;(with_reducible repeat (first | refine blk_drewN ?_ _ | refine blk_drew ?_ | refine blk_alloc ?_ _));exact Zb.out) Try.underlying29 rfl (by kernel_rfl)) rfl ?_
       exact ⟨_,rfl,by first | exact Kd.R_nil _ _ _ _ _ | exact Kd.N_nil _ _ _ _ _ | exact Kd.V_nil _ _ _ _ _ | exact Kd.Q_nil _ _ _ _ _ | exact Kd.S_nil _ _ _ _ _,bB⟩
mutual
def laws_FnClockLater.j0:Nat → Int → Bool → Bool → Int → Int → List (S29) → Int → Int → List (S29) → Option (Bool)
 | 0,_,_,_,_,_,_,_,_,_=>none
 | k + 1,x4,x6,x45,x952000,x952001,x952002,x959000,x959001,x959002=>if x45 = true then (some false) else (if x6 = true then (laws_FnClockLater.j1 k x4 x6 (x4 == 0) x952000 x952001 x952002 x959000 x959001 x959002) else (laws_FnClockLater.j1 k x4 x6 true x952000 x952001 x952002 x959000 x959001 x959002))
def laws_FnClockLater.j1:Nat → Int → Bool → Bool → Int → Int → List (S29) → Int → Int → List (S29) → Option (Bool)
 | 0,_,_,_,_,_,_,_,_,_=>none
 | k + 1,x4,x6,x51,x952000,x952001,x952002,x959000,x959001,x959002=>if x51 = true then (if x6 = true then ((laws_mnClock.f k x959000 x959001 x959002 x952000 x952001 x952002).bind fun t967=>(some t967)) else (some true)) else ((impl_ClockLater.f k x952000 x952001 x952002 (wrap64 (x4 - 1))).bind fun bt968=>((impl_ClockPass.f k bt968.1 bt968.2.1 bt968.2.2.1).bind fun bt975=>((impl_ClockSteps.f k bt968.1 bt968.2.1 bt968.2.2.1).bind fun bt982=>((impl_ClockSteps.f k x959000 x959001 x959002).bind fun bt986=>(if bt968.2.2.2 = true then (if bt975.2.2.2 = true then ((laws_mnClock.f k bt975.1 bt975.2.1 bt975.2.2.1 x959000 x959001 x959002).bind fun t990=>(if t990 = true then (some (decide ((bt982.1.length:Int) ≤ (bt986.1.length:Int)))) else (some false))) else (some false)) else (some false))))))
end
def laws_FnClockLater.f (k:Nat) (l0:List Int):Option (Bool):=if (l0.length:Int) > 1048576 then (some true) else ((spec_DrawClockLater.f k l0).bind fun bt945=>((impl_ClockLater.f k bt945.1 bt945.2.1 bt945.2.2.1 bt945.2.2.2).bind fun bt952=>((spec_ClockLater.f k bt945.1 bt945.2.1 bt945.2.2.1 bt945.2.2.2).bind fun bt959=>((laws_mnClock.f k bt952.1 bt952.2.1 bt952.2.2.1 bt959.1 bt959.2.1 bt959.2.2.1).bind fun t966=>(if t966 = true then (laws_FnClockLater.j0 k bt945.2.2.2 bt952.2.2.2 (bt952.2.2.2 != bt959.2.2.2) bt945.1 bt945.2.1 bt945.2.2.1 bt952.1 bt952.2.1 bt952.2.2.1) else (laws_FnClockLater.j0 k bt945.2.2.2 bt952.2.2.2 true bt945.1 bt945.2.1 bt945.2.2.1 bt952.1 bt952.2.1 bt952.2.2.1))))))
theorem laws_FnClockLater.mono_l:∀ k,(∀ y0 y1 y2 y3 y4 y5 y6 y7 y8,LeO (laws_FnClockLater.j0 k y0 y1 y2 y3 y4 y5 y6 y7 y8) (laws_FnClockLater.j0 (k + 1) y0 y1 y2 y3 y4 y5 y6 y7 y8))∧(∀ y0 y1 y2 y3 y4 y5 y6 y7 y8,LeO (laws_FnClockLater.j1 k y0 y1 y2 y3 y4 y5 y6 y7 y8) (laws_FnClockLater.j1 (k + 1) y0 y1 y2 y3 y4 y5 y6 y7 y8))
 | 0=>⟨fun _ _ _ _ _ _ _ _ _ r h=>by simp [laws_FnClockLater.j0] at h,fun _ _ _ _ _ _ _ _ _ r h=>by simp [laws_FnClockLater.j1] at h⟩
 | k + 1=>by
  obtain ⟨ih0,ih1⟩:=laws_FnClockLater.mono_l k
  refine ⟨?_,?_⟩
  ·intro y0 y1 y2 y3 y4 y5 y6 y7 y8
   unfold laws_FnClockLater.j0
   repeat' first
   | (with_reducible exact ih0 _ _ _ _ _ _ _ _ _)
   | (with_reducible exact ih1 _ _ _ _ _ _ _ _ _)
   | (with_reducible exact impl_ClockLater.mono _ _ _ _ _)
   | (with_reducible exact impl_ClockPass.mono _ _ _ _)
   | (with_reducible exact impl_ClockSteps.mono _ _ _ _)
   | (with_reducible exact laws_mnClock.mono _ _ _ _ _ _ _)
   | (with_reducible exact spec_ClockLater.mono _ _ _ _ _)
   | (with_reducible exact spec_DrawClockLater.mono _ _)
   | (with_reducible exact LeO.refl _)
   | (with_reducible exact LeO.none _)
   | (with_reducible refine LeO.ite ?_ ?_)
   | (with_reducible refine LeO.bind ?_ (fun _=>?_))
   | exact ih0 _ _ _ _ _ _ _ _ _
   | exact ih1 _ _ _ _ _ _ _ _ _
   | exact impl_ClockLater.mono _ _ _ _ _
   | exact impl_ClockPass.mono _ _ _ _
   | exact impl_ClockSteps.mono _ _ _ _
   | exact laws_mnClock.mono _ _ _ _ _ _ _
   | exact spec_ClockLater.mono _ _ _ _ _
   | exact spec_DrawClockLater.mono _ _
   | exact LeO.none _
   | refine LeO.ite ?_ ?_
   | refine LeO.bind ?_ (fun _=>?_)
  ·intro y0 y1 y2 y3 y4 y5 y6 y7 y8
   unfold laws_FnClockLater.j1
   repeat' first
   | (with_reducible exact ih0 _ _ _ _ _ _ _ _ _)
   | (with_reducible exact ih1 _ _ _ _ _ _ _ _ _)
   | (with_reducible exact impl_ClockLater.mono _ _ _ _ _)
   | (with_reducible exact impl_ClockPass.mono _ _ _ _)
   | (with_reducible exact impl_ClockSteps.mono _ _ _ _)
   | (with_reducible exact laws_mnClock.mono _ _ _ _ _ _ _)
   | (with_reducible exact spec_ClockLater.mono _ _ _ _ _)
   | (with_reducible exact spec_DrawClockLater.mono _ _)
   | (with_reducible exact LeO.refl _)
   | (with_reducible exact LeO.none _)
   | (with_reducible refine LeO.ite ?_ ?_)
   | (with_reducible refine LeO.bind ?_ (fun _=>?_))
   | exact ih0 _ _ _ _ _ _ _ _ _
   | exact ih1 _ _ _ _ _ _ _ _ _
   | exact impl_ClockLater.mono _ _ _ _ _
   | exact impl_ClockPass.mono _ _ _ _
   | exact impl_ClockSteps.mono _ _ _ _
   | exact laws_mnClock.mono _ _ _ _ _ _ _
   | exact spec_ClockLater.mono _ _ _ _ _
   | exact spec_DrawClockLater.mono _ _
   | exact LeO.none _
   | refine LeO.ite ?_ ?_
   | refine LeO.bind ?_ (fun _=>?_)
theorem laws_FnClockLater.mono:∀ a0 k,LeO (laws_FnClockLater.f k a0) (laws_FnClockLater.f (k + 1) a0):=by
 intro a0 k
 obtain ⟨ih0,ih1⟩:=laws_FnClockLater.mono_l k
 unfold laws_FnClockLater.f
 repeat' first
   | (with_reducible exact ih0 _ _ _ _ _ _ _ _ _)
   | (with_reducible exact ih1 _ _ _ _ _ _ _ _ _)
   | (with_reducible exact impl_ClockLater.mono _ _ _ _ _)
   | (with_reducible exact impl_ClockPass.mono _ _ _ _)
   | (with_reducible exact impl_ClockSteps.mono _ _ _ _)
   | (with_reducible exact laws_mnClock.mono _ _ _ _ _ _ _)
   | (with_reducible exact spec_ClockLater.mono _ _ _ _ _)
   | (with_reducible exact spec_DrawClockLater.mono _ _)
   | (with_reducible exact LeO.refl _)
   | (with_reducible exact LeO.none _)
   | (with_reducible refine LeO.ite ?_ ?_)
   | (with_reducible refine LeO.bind ?_ (fun _=>?_))
   | exact ih0 _ _ _ _ _ _ _ _ _
   | exact ih1 _ _ _ _ _ _ _ _ _
   | exact impl_ClockLater.mono _ _ _ _ _
   | exact impl_ClockPass.mono _ _ _ _
   | exact impl_ClockSteps.mono _ _ _ _
   | exact laws_mnClock.mono _ _ _ _ _ _ _
   | exact spec_ClockLater.mono _ _ _ _ _
   | exact spec_DrawClockLater.mono _ _
   | exact LeO.none _
   | refine LeO.ite ?_ ?_
   | refine LeO.bind ?_ (fun _=>?_)
set_option maxHeartbeats 8000000 in
set_option maxRecDepth 100000 in
theorem laws_FnClockLater.calls (k:Nat) (A0:Option Addr) (c0:Nat) (l0:List Int) (r:Bool) (w:World) (hr0:Kd.C (Kd.int .u8) w A0 l0.length l0) (hc0:l0.length ≤ c0) (h:laws_FnClockLater.f k l0 = some r) :
  Calls Try.prog 12 #[.slice A0 l0.length c0] w fun e w'=>e = .returned (.bool r)∧Below w.heap.size w w':=by
 have hu29:=Try.underlying29
 have Te:=aQ hr0
 have Tf:=aQ hc0
 clear hr0 hc0
 have HB:=aQ (Below.refl w.heap.size w)
 have H:(if (l0.length:Int) > 1048576 then (some true) else ((spec_DrawClockLater.f k l0).bind fun bt945=>((impl_ClockLater.f k bt945.1 bt945.2.1 bt945.2.2.1 bt945.2.2.2).bind fun bt952=>((spec_ClockLater.f k bt945.1 bt945.2.1 bt945.2.2.1 bt945.2.2.2).bind fun bt959=>((laws_mnClock.f k bt952.1 bt952.2.1 bt952.2.2.1 bt959.1 bt959.2.1 bt959.2.2.1).bind fun t966=>(if t966 = true then (laws_FnClockLater.j0 k bt945.2.2.2 bt952.2.2.2 (bt952.2.2.2 != bt959.2.2.2) bt945.1 bt945.2.1 bt945.2.2.1 bt952.1 bt952.2.1 bt952.2.2.1) else (laws_FnClockLater.j0 k bt945.2.2.2 bt952.2.2.2 true bt945.1 bt945.2.1 bt945.2.2.1 bt952.1 bt952.2.1 bt952.2.2.1))))))) = some r:=h
 clear h
 by_cases c2:(l0.length:Int) > 1048576
 ·rw [if_pos c2] at H
  have c2b0:decide (1048576 < (l0.length:Int)) = true:=decide_eq_true c2
  have c2b1:decide (1048576 < l0.length) = true:=decide_eq_true (by omega)
  clear c2
  obtain rfl:=Option.some.inj H
  go_enter Try.func12,Try.ntmps12
  go_wp2
  go_ret
  exact ⟨eW,bB⟩
 rw [if_neg c2] at H
 have c2b0:decide (1048576 < (l0.length:Int)) = false:=decide_eq_false c2
 have c2b1:decide (1048576 < l0.length) = false:=decide_eq_false (by omega)
 clear c2
 obtain ⟨⟨t945,t946,t947,t950⟩,A3,H⟩:=bQ H
 dsimp only at H
 obtain ⟨⟨t952,t953,t954,t957⟩,A4,H⟩:=bQ H
 dsimp only at H
 obtain ⟨⟨t959,t960,t961,t964⟩,A5,H⟩:=bQ H
 dsimp only at H
 have YL:=aQ H
 clear H
 go_enter Try.func12,Try.ntmps12
 go_upto_region 6 with (first | ((with_reducible refine gate_callee (f:=37) rfl ?_);refine goesL_ (some 22) rfl rfl Try.func37 (by kernel_rfl) rfl #[.slice A0 l0.length c0] rfl mP ?_;(with_reducible refine (spec_DrawClockLater.calls k _ _ l0 t945 t946 t947 t950 _ ?Zu ?Zw A3.out).mono ?_);(case Zu=>repeat (first | exact Te.out | (with_reducible refine Kd.C_alloc ?_ _) | (with_reducible refine Kd.C_drewN ?_ _) | (with_reducible refine Kd.C_drew ?_)));(case Zw=>exact Tf.out);rintro e w7 ⟨v948,rfl,ho0,hb⟩;refine ⟨_,rfl,?_⟩;have Zx:=aQ (Kd.N_lower (Kd.N_mono (ok':=fun k_=>True) ho0 (fun k_ hk_=>trivial)) (below_size bB));replace HB:=aQ (below_step bB hb);(try clear hb);(try clear ho0)) | ((with_reducible refine gate_dst (N:=3) rfl ?_);(try (refine gate_guard (by rfl) ?_;dsimp only));refine box1 (N:=3) (cs:=#[.int .i64 0,.int .i64 0,.slice none 0 0]) (t:=29) ?_;intro Zg hg w8 hbox hb;replace Zx:=aQ (Kd.N_below (Kd.N_elderB (nN Zx.out) Zg (Nat.le_of_eq hg.symm)) hb);have Zh:=aQ (hbox);have YS:=aQ (gB:w.heap.size ≤ Zg);have Se:=YS;replace HB:=aQ (below_step bB hb);clear hb hbox hg;obtain ⟨YM,YN,YO,YP,YQ,YR⟩:=cz3 Zh.out;obtain ⟨Zo,Zn,Xa⟩:=Kd.N_slice Zx.out;subst Xa) | ((with_reducible refine gate_callee (f:=34) rfl ?_);refine goesL_ (some 28) rfl rfl Try.func34 (by kernel_rfl) rfl #[.agg #[.int .i64 t945,.int .i64 t946,.slice Zo t947.length Zn],.int .i64 t950] rfl mP ?_;(with_reducible refine (impl_ClockLater.calls k t945 t946 _ _ t947 t950 t952 t953 t954 t957 _ ?Zu ?Zw A4.out).mono ?_);(case Zu=>refine (Kd.N_reads' (e:=29) (base:=w.heap.size) (ok:=fun k_=>(True∧k_ ≠ Zg)) (n:=t947.length) (c:=Zn) ?_).2.2;exact (nN ((Kd.N_mono (Kd.N_far (p:=⟨Zg,2,none⟩) (Kd.N_far (p:=⟨Zg,1,none⟩) (Kd.N_far (p:=⟨Zg,0,none⟩) (Kd.N_mono Zx.out (fun k_ hk=>(⟨hk,hk.2⟩:_∧k_ ≠ Zg))) (fun _ hk=>hk.2) (.int .i64 t945)) (fun _ hk=>hk.2) (.int .i64 t946)) (fun _ hk=>hk.2) (.slice Zo t947.length Zn)) (fun _ h_=>h_.1)))));(case Zw=>exact (Kd.N_reads' Zx.out).2.1);rintro e w11 ⟨v955,rfl,ho0,hb⟩;refine ⟨_,rfl,?_⟩;have ZG:=aQ (Kd.N_lower (Kd.N_mono (ok':=fun k_=>some k_ ≠ (.slice Zo t947.length Zn:Value).ownBlock∧k_ ≠ Zg) ho0 (fun k_ hk_=>⟨(Kd.fresh' (Kd.N_lt (nN ((Kd.N_mono (Kd.N_far (p:=⟨Zg,2,none⟩) (Kd.N_far (p:=⟨Zg,1,none⟩) (Kd.N_far (p:=⟨Zg,0,none⟩) (Kd.N_mono Zx.out (fun k_ hk=>(⟨hk,hk.2⟩:_∧k_ ≠ Zg))) (fun _ hk=>hk.2) (.int .i64 t945)) (fun _ hk=>hk.2) (.int .i64 t946)) (fun _ hk=>hk.2) (.slice Zo t947.length Zn)) (fun _ h_=>h_.1))))) k_ hk_),(Kd.freshB (g:=Zg) (o:=.cells #[.int .i64 t945,.int .i64 t946,.slice Zo t947.length Zn] 29 (0,0)) bP k_ hk_)⟩)) (below_size bB));replace Zx:=aQ (Kd.N_elder' (nN ((Kd.N_mono (Kd.N_far (p:=⟨Zg,2,none⟩) (Kd.N_far (p:=⟨Zg,1,none⟩) (Kd.N_far (p:=⟨Zg,0,none⟩) (Kd.N_mono Zx.out (fun k_ hk=>(⟨hk,hk.2⟩:_∧k_ ≠ Zg))) (fun _ hk=>hk.2) (.int .i64 t945)) (fun _ hk=>hk.2) (.int .i64 t946)) (fun _ hk=>hk.2) (.slice Zo t947.length Zn)) (fun _ h_=>h_.1)))) (Kd.N_base ho0) hb);replace Zh:=aQ (blk_below (g:=Zg) (o:=.cells #[.int .i64 t945,.int .i64 t946,.slice Zo t947.length Zn] 29 (0,0)) bP hb);replace HB:=aQ (below_step bB hb);(try clear hb);(try clear ho0)) | ((with_reducible refine gate_dst (N:=5) rfl ?_);(try (refine gate_guard (by rfl) ?_;dsimp only));refine box1 (N:=5) (cs:=#[.int .i64 0,.int .i64 0,.slice none 0 0]) (t:=29) ?_;intro Zf hg w12 hbox hb;replace Zx:=aQ (Kd.N_below (Kd.N_elderB (nN Zx.out) Zf (Nat.le_of_eq hg.symm)) hb);replace ZG:=aQ (Kd.N_below (Kd.N_elderB (nN ZG.out) Zf (Nat.le_of_eq hg.symm)) hb);have Zi:=aQ (hbox);have YT:=aQ (gB:w.heap.size ≤ Zf);have Sf:=YT;replace HB:=aQ (below_step bB hb);have ZH:=aQ ((by rw [hg];exact Nat.ne_of_lt (blk_lt (nB Zh.out)):Zg ≠ Zf));have ZK:=aQ ZH.out.symm;replace Zh:=aQ (blk_below (nB Zh.out) hb);clear hb hbox hg;have Sg:=ZK.out;have Sh:=ZH.out;obtain ⟨Yt,Yu,Yv,Yw,Yx,Yy⟩:=cz3 Zi.out;obtain ⟨Zs,Zr,Xb⟩:=Kd.N_slice ZG.out;subst Xb;obtain ⟨Yz,YA,YB,YC,YD,YE⟩:=cz3 Zh.out) | ((with_reducible refine gate_callee (f:=36) rfl ?_);refine goesL_ (some 34) rfl rfl Try.func36 (by kernel_rfl) rfl #[.agg #[.int .i64 t945,.int .i64 t946,.slice Zo t947.length Zn],.int .i64 t950] rfl mP ?_;(with_reducible refine (spec_ClockLater.calls k t945 t946 _ _ t947 t950 t959 t960 t961 t964 _ ?Zu ?Zw A5.out).mono ?_);(case Zu=>refine (Kd.N_reads' (e:=29) (base:=w.heap.size) (ok:=fun k_=>(((True∧k_ ≠ Zg)∧some k_ ≠ (.slice Zs t954.length Zr:Value).ownBlock)∧k_ ≠ Zf)) (n:=t947.length) (c:=Zn) ?_).2.2;exact (nN ((Kd.N_mono (Kd.N_far (p:=⟨Zf,2,none⟩) (Kd.N_far (p:=⟨Zf,1,none⟩) (Kd.N_far (p:=⟨Zf,0,none⟩) (Kd.N_mono Zx.out (fun k_ hk=>(⟨hk,hk.2⟩:_∧k_ ≠ Zf))) (fun _ hk=>hk.2) (.int .i64 t952)) (fun _ hk=>hk.2) (.int .i64 t953)) (fun _ hk=>hk.2) (.slice Zs t954.length Zr)) (fun _ h_=>h_.1)))));(case Zw=>exact (Kd.N_reads' Zx.out).2.1);rintro e w17 ⟨v962,rfl,ho0,hb⟩;refine ⟨_,rfl,?_⟩;have ZY:=aQ (Kd.N_lower (Kd.N_mono (ok':=fun k_=>some k_ ≠ (.slice Zo t947.length Zn:Value).ownBlock∧some k_ ≠ (.slice Zs t954.length Zr:Value).ownBlock∧k_ ≠ Zg∧k_ ≠ Zf) ho0 (fun k_ hk_=>⟨(Kd.fresh' (Kd.N_lt (nN ((Kd.N_mono (Kd.N_far (p:=⟨Zf,2,none⟩) (Kd.N_far (p:=⟨Zf,1,none⟩) (Kd.N_far (p:=⟨Zf,0,none⟩) (Kd.N_mono Zx.out (fun k_ hk=>(⟨hk,hk.2⟩:_∧k_ ≠ Zf))) (fun _ hk=>hk.2) (.int .i64 t952)) (fun _ hk=>hk.2) (.int .i64 t953)) (fun _ hk=>hk.2) (.slice Zs t954.length Zr)) (fun _ h_=>h_.1))))) k_ hk_),(Kd.fresh' (Kd.N_lt (nN ((Kd.N_mono (Kd.N_far (p:=⟨Zf,2,none⟩) (Kd.N_far (p:=⟨Zf,1,none⟩) (Kd.N_far (p:=⟨Zf,0,none⟩) (Kd.N_mono ZG.out (fun k_ hk=>(⟨hk,hk.2⟩:_∧k_ ≠ Zf))) (fun _ hk=>hk.2) (.int .i64 t952)) (fun _ hk=>hk.2) (.int .i64 t953)) (fun _ hk=>hk.2) (.slice Zs t954.length Zr)) (fun _ h_=>h_.1))))) k_ hk_),(Kd.freshB (g:=Zg) (o:=.cells #[.int .i64 t945,.int .i64 t946,.slice Zo t947.length Zn] 29 (0,0)) bF k_ hk_),(Kd.freshB (g:=Zf) (o:=.cells #[.int .i64 t952,.int .i64 t953,.slice Zs t954.length Zr] 29 (0,0)) bP k_ hk_)⟩)) (below_size bB));replace Zx:=aQ (Kd.N_elder' (nN ((Kd.N_mono (Kd.N_far (p:=⟨Zf,2,none⟩) (Kd.N_far (p:=⟨Zf,1,none⟩) (Kd.N_far (p:=⟨Zf,0,none⟩) (Kd.N_mono Zx.out (fun k_ hk=>(⟨hk,hk.2⟩:_∧k_ ≠ Zf))) (fun _ hk=>hk.2) (.int .i64 t952)) (fun _ hk=>hk.2) (.int .i64 t953)) (fun _ hk=>hk.2) (.slice Zs t954.length Zr)) (fun _ h_=>h_.1)))) (Kd.N_base ho0) hb);replace ZG:=aQ (Kd.N_elder' (nN ((Kd.N_mono (Kd.N_far (p:=⟨Zf,2,none⟩) (Kd.N_far (p:=⟨Zf,1,none⟩) (Kd.N_far (p:=⟨Zf,0,none⟩) (Kd.N_mono ZG.out (fun k_ hk=>(⟨hk,hk.2⟩:_∧k_ ≠ Zf))) (fun _ hk=>hk.2) (.int .i64 t952)) (fun _ hk=>hk.2) (.int .i64 t953)) (fun _ hk=>hk.2) (.slice Zs t954.length Zr)) (fun _ h_=>h_.1)))) (Kd.N_base ho0) hb);replace Zh:=aQ (blk_below (g:=Zg) (o:=.cells #[.int .i64 t945,.int .i64 t946,.slice Zo t947.length Zn] 29 (0,0)) bF hb);replace Zi:=aQ (blk_below (g:=Zf) (o:=.cells #[.int .i64 t952,.int .i64 t953,.slice Zs t954.length Zr] 29 (0,0)) bP hb);replace HB:=aQ (below_step bB hb);(try clear hb);(try clear ho0)) | ((with_reducible refine gate_dst (N:=7) rfl ?_);(try (refine gate_guard (by rfl) ?_;dsimp only));refine box1 (N:=7) (cs:=#[.int .i64 0,.int .i64 0,.slice none 0 0]) (t:=29) ?_;intro Zd hg w18 hbox hb;replace Zx:=aQ (Kd.N_below (Kd.N_elderB (nN Zx.out) Zd (Nat.le_of_eq hg.symm)) hb);replace ZG:=aQ (Kd.N_below (Kd.N_elderB (nN ZG.out) Zd (Nat.le_of_eq hg.symm)) hb);replace ZY:=aQ (Kd.N_below (Kd.N_elderB (nN ZY.out) Zd (Nat.le_of_eq hg.symm)) hb);have Zk:=aQ (hbox);have YU:=aQ (gB:w.heap.size ≤ Zd);have Si:=YU;replace HB:=aQ (below_step bB hb);have ZI:=aQ ((by rw [hg];exact Nat.ne_of_lt (blk_lt (nB Zh.out)):Zg ≠ Zd));have ZL:=aQ ZI.out.symm;replace Zh:=aQ (blk_below (nB Zh.out) hb);have ZJ:=aQ ((by rw [hg];exact Nat.ne_of_lt (blk_lt (nB Zi.out)):Zf ≠ Zd));have ZM:=aQ ZJ.out.symm;replace Zi:=aQ (blk_below (nB Zi.out) hb);clear hb hbox hg;have Sj:=ZL.out;have Sk:=ZI.out;have Sl:=ZM.out;have Sm:=ZJ.out;obtain ⟨YF,YG,YH,YI,YJ,YK⟩:=cz3 Zk.out;obtain ⟨Zq,Zp,Xc⟩:=Kd.N_slice ZY.out;subst Xc))
 (try simp only [Act.put,List.setIfInBounds_toArray,List.set_cons_zero,List.set_cons_succ])
 go_cut [45] (fun v45 wc=>∃ (kq:Nat) (x45_5:Bool),v45 = .bool x45_5∧Aside0 (laws_FnClockLater.j0 kq t950 t957 x45_5 t945 t946 t947 t952 t953 t954 = some r)∧Aside0 (kq ≤ k)∧Aside0 (Kd.N k29 29 wc w.heap.size (fun k_=>some k_ ≠ ((.slice Zs t954.length Zr):Value).ownBlock∧some k_ ≠ ((.slice Zq t961.length Zp):Value).ownBlock∧k_ ≠ Zg∧k_ ≠ Zf∧k_ ≠ Zd) (.slice Zo t947.length Zn) t947)∧Aside0 (Kd.N k29 29 wc w.heap.size (fun k_=>some k_ ≠ ((.slice Zo t947.length Zn):Value).ownBlock∧some k_ ≠ ((.slice Zq t961.length Zp):Value).ownBlock∧k_ ≠ Zg∧k_ ≠ Zf∧k_ ≠ Zd) (.slice Zs t954.length Zr) t954)∧Aside0 (Kd.N k29 29 wc w.heap.size (fun k_=>some k_ ≠ ((.slice Zo t947.length Zn):Value).ownBlock∧some k_ ≠ ((.slice Zs t954.length Zr):Value).ownBlock∧k_ ≠ Zg∧k_ ≠ Zf∧k_ ≠ Zd) (.slice Zq t961.length Zp) t961)∧Aside0 (wc.heap[Zg]? = some (.cells #[.int .i64 t945,.int .i64 t946,(.slice Zo t947.length Zn)] 29 (0,0)))∧Aside0 (wc.heap[Zf]? = some (.cells #[.int .i64 t952,.int .i64 t953,(.slice Zs t954.length Zr)] 29 (0,0)))∧Aside0 (wc.heap[Zd]? = some (.cells #[.int .i64 t959,.int .i64 t960,(.slice Zq t961.length Zp)] 29 (0,0)))∧Aside0 (Below w.heap.size w wc))
 case first =>
  have H:=YL.out
  clear YL
  obtain ⟨t966,A23,H⟩:=bQ H
  (try dsimp only at H)
  by_cases c24:t966 = true
  ·subst c24
   have H1:(laws_FnClockLater.j0 k t950 t957 (t957 != t964) t945 t946 t947 t952 t953 t954) = some r:=by rw [if_pos rfl] at H;exact H
   clear H
   have H:=H1
   clear H1
   have H':=aQ H
   clear H
   have Sn:=ZK.out
   have So:=ZH.out
   have Sp:=ZJ.out
   have Sq:=ZM.out
   obtain ⟨Vg,Vh,Vi,Vj,Vk,Vl⟩:=cz3 Zi.out
   have Sr:=ZL.out
   have Ss:=ZI.out
   obtain ⟨Vm,Vn,Vo,Vp,Vq,Vr⟩:=cz3 Zk.out
   go_wp2_with (first | ((with_reducible refine gate_callee (f:=32) rfl ?_);refine goesL_ (some 39) rfl rfl Try.func32 (by kernel_rfl) rfl #[.agg #[.int .i64 t952,.int .i64 t953,.slice Zs t954.length Zr],.agg #[.int .i64 t959,.int .i64 t960,.slice Zq t961.length Zp]] rfl mP ?_;(with_reducible refine (laws_mnClock.calls k t952 t953 _ _ t954 t959 t960 _ _ t961 true _ ?Zu ?Zw ?Yj ?Yk A23.out).mono ?_);(case Zu=>refine (Kd.N_reads' (e:=29) (base:=w.heap.size) (ok:=fun k_=>((((some k_ ≠ (.slice Zo t947.length Zn:Value).ownBlock∧k_ ≠ Zg)∧k_ ≠ Zf)∧some k_ ≠ (.slice Zq t961.length Zp:Value).ownBlock)∧k_ ≠ Zd)) (n:=t954.length) (c:=Zr) ?_).2.2;exact (nN ((Kd.N_mono (Kd.N_far (p:=⟨Zd,2,none⟩) (Kd.N_far (p:=⟨Zd,1,none⟩) (Kd.N_far (p:=⟨Zd,0,none⟩) (Kd.N_mono ZG.out (fun k_ hk=>(⟨hk,hk.2⟩:_∧k_ ≠ Zd))) (fun _ hk=>hk.2) (.int .i64 t959)) (fun _ hk=>hk.2) (.int .i64 t960)) (fun _ hk=>hk.2) (.slice Zq t961.length Zp)) (fun _ h_=>h_.1)))));(case Zw=>exact (Kd.N_reads' ZG.out).2.1);(case Yj=>refine (Kd.N_reads' (e:=29) (base:=w.heap.size) (ok:=fun k_=>((some k_ ≠ (.slice Zo t947.length Zn:Value).ownBlock∧(some k_ ≠ (.slice Zs t954.length Zr:Value).ownBlock∧(k_ ≠ Zg∧k_ ≠ Zf)))∧k_ ≠ Zd)) (n:=t961.length) (c:=Zp) ?_).2.2;exact (nN ((Kd.N_mono (Kd.N_far (p:=⟨Zd,2,none⟩) (Kd.N_far (p:=⟨Zd,1,none⟩) (Kd.N_far (p:=⟨Zd,0,none⟩) (Kd.N_mono ZY.out (fun k_ hk=>(⟨hk,hk.2⟩:_∧k_ ≠ Zd))) (fun _ hk=>hk.2) (.int .i64 t959)) (fun _ hk=>hk.2) (.int .i64 t960)) (fun _ hk=>hk.2) (.slice Zq t961.length Zp)) (fun _ h_=>h_.1)))));(case Yk=>exact (Kd.N_reads' ZY.out).2.1);rintro e w30 ⟨rfl,hb⟩;refine ⟨_,rfl,?_⟩;replace Zx:=aQ (Kd.N_below (nN ((Kd.N_mono (Kd.N_far (p:=⟨Zd,2,none⟩) (Kd.N_far (p:=⟨Zd,1,none⟩) (Kd.N_far (p:=⟨Zd,0,none⟩) (Kd.N_mono Zx.out (fun k_ hk=>(⟨hk,hk.2⟩:_∧k_ ≠ Zd))) (fun _ hk=>hk.2) (.int .i64 t959)) (fun _ hk=>hk.2) (.int .i64 t960)) (fun _ hk=>hk.2) (.slice Zq t961.length Zp)) (fun _ h_=>h_.1)))) hb);replace ZG:=aQ (Kd.N_below (nN ((Kd.N_mono (Kd.N_far (p:=⟨Zd,2,none⟩) (Kd.N_far (p:=⟨Zd,1,none⟩) (Kd.N_far (p:=⟨Zd,0,none⟩) (Kd.N_mono ZG.out (fun k_ hk=>(⟨hk,hk.2⟩:_∧k_ ≠ Zd))) (fun _ hk=>hk.2) (.int .i64 t959)) (fun _ hk=>hk.2) (.int .i64 t960)) (fun _ hk=>hk.2) (.slice Zq t961.length Zp)) (fun _ h_=>h_.1)))) hb);replace ZY:=aQ (Kd.N_below (nN ((Kd.N_mono (Kd.N_far (p:=⟨Zd,2,none⟩) (Kd.N_far (p:=⟨Zd,1,none⟩) (Kd.N_far (p:=⟨Zd,0,none⟩) (Kd.N_mono ZY.out (fun k_ hk=>(⟨hk,hk.2⟩:_∧k_ ≠ Zd))) (fun _ hk=>hk.2) (.int .i64 t959)) (fun _ hk=>hk.2) (.int .i64 t960)) (fun _ hk=>hk.2) (.slice Zq t961.length Zp)) (fun _ h_=>h_.1)))) hb);replace Zh:=aQ (blk_below (g:=Zg) (o:=.cells #[.int .i64 t945,.int .i64 t946,.slice Zo t947.length Zn] 29 (0,0)) bF hb);replace Zi:=aQ (blk_below (g:=Zf) (o:=.cells #[.int .i64 t952,.int .i64 t953,.slice Zs t954.length Zr] 29 (0,0)) bF hb);replace Zk:=aQ (blk_below (g:=Zd) (o:=.cells #[.int .i64 t959,.int .i64 t960,.slice Zq t961.length Zp] 29 (0,0)) bP hb);replace HB:=aQ (below_step bB hb);(try clear hb)))
   go_meet
   case rel=>exact ⟨_,((t957 != t964)),rfl,H',⟨by first | omega | exact Nat.le_refl _⟩,⟨nN (Kd.N_mono Zx.out (fun _ hk=>⟨hk.1.1.1.2,⟨hk.1.2,⟨hk.1.1.1.1.2,⟨hk.1.1.2,hk.2⟩⟩⟩⟩))⟩,⟨nN (Kd.N_mono ZG.out (fun _ hk=>⟨hk.1.1.1.1,⟨hk.1.2,⟨hk.1.1.1.2,⟨hk.1.1.2,hk.2⟩⟩⟩⟩))⟩,⟨nN (Kd.N_mono ZY.out (fun _ hk=>⟨hk.1.1,⟨hk.1.2.1,⟨hk.1.2.2.1,⟨hk.1.2.2.2,hk.2⟩⟩⟩⟩))⟩,⟨nB Zh.out⟩,⟨nB Zi.out⟩,⟨nB Zk.out⟩,⟨bB⟩⟩
  ·replace c24:=Bool.eq_false_iff.mpr c24
   subst c24
   have H1:(laws_FnClockLater.j0 k t950 t957 true t945 t946 t947 t952 t953 t954) = some r:=by rw [if_neg (show ¬ (false = true) by decide)] at H;exact H
   clear H
   have H:=H1
   clear H1
   have H':=aQ H
   clear H
   have St:=ZK.out
   have Su:=ZH.out
   have Sv:=ZJ.out
   have Sw:=ZM.out
   obtain ⟨Vs,Vt,Vu,Vv,Vw,Vx⟩:=cz3 Zi.out
   have Sx:=ZL.out
   have Sy:=ZI.out
   obtain ⟨Vy,Vz,VA,VB,VC,VD⟩:=cz3 Zk.out
   go_wp2_with (first | ((with_reducible refine gate_callee (f:=32) rfl ?_);refine goesL_ (some 39) rfl rfl Try.func32 (by kernel_rfl) rfl #[.agg #[.int .i64 t952,.int .i64 t953,.slice Zs t954.length Zr],.agg #[.int .i64 t959,.int .i64 t960,.slice Zq t961.length Zp]] rfl mP ?_;(with_reducible refine (laws_mnClock.calls k t952 t953 _ _ t954 t959 t960 _ _ t961 false _ ?Zu ?Zw ?Yj ?Yk A23.out).mono ?_);(case Zu=>refine (Kd.N_reads' (e:=29) (base:=w.heap.size) (ok:=fun k_=>((((some k_ ≠ (.slice Zo t947.length Zn:Value).ownBlock∧k_ ≠ Zg)∧k_ ≠ Zf)∧some k_ ≠ (.slice Zq t961.length Zp:Value).ownBlock)∧k_ ≠ Zd)) (n:=t954.length) (c:=Zr) ?_).2.2;exact (nN ((Kd.N_mono (Kd.N_far (p:=⟨Zd,2,none⟩) (Kd.N_far (p:=⟨Zd,1,none⟩) (Kd.N_far (p:=⟨Zd,0,none⟩) (Kd.N_mono ZG.out (fun k_ hk=>(⟨hk,hk.2⟩:_∧k_ ≠ Zd))) (fun _ hk=>hk.2) (.int .i64 t959)) (fun _ hk=>hk.2) (.int .i64 t960)) (fun _ hk=>hk.2) (.slice Zq t961.length Zp)) (fun _ h_=>h_.1)))));(case Zw=>exact (Kd.N_reads' ZG.out).2.1);(case Yj=>refine (Kd.N_reads' (e:=29) (base:=w.heap.size) (ok:=fun k_=>((some k_ ≠ (.slice Zo t947.length Zn:Value).ownBlock∧(some k_ ≠ (.slice Zs t954.length Zr:Value).ownBlock∧(k_ ≠ Zg∧k_ ≠ Zf)))∧k_ ≠ Zd)) (n:=t961.length) (c:=Zp) ?_).2.2;exact (nN ((Kd.N_mono (Kd.N_far (p:=⟨Zd,2,none⟩) (Kd.N_far (p:=⟨Zd,1,none⟩) (Kd.N_far (p:=⟨Zd,0,none⟩) (Kd.N_mono ZY.out (fun k_ hk=>(⟨hk,hk.2⟩:_∧k_ ≠ Zd))) (fun _ hk=>hk.2) (.int .i64 t959)) (fun _ hk=>hk.2) (.int .i64 t960)) (fun _ hk=>hk.2) (.slice Zq t961.length Zp)) (fun _ h_=>h_.1)))));(case Yk=>exact (Kd.N_reads' ZY.out).2.1);rintro e w36 ⟨rfl,hb⟩;refine ⟨_,rfl,?_⟩;replace Zx:=aQ (Kd.N_below (nN ((Kd.N_mono (Kd.N_far (p:=⟨Zd,2,none⟩) (Kd.N_far (p:=⟨Zd,1,none⟩) (Kd.N_far (p:=⟨Zd,0,none⟩) (Kd.N_mono Zx.out (fun k_ hk=>(⟨hk,hk.2⟩:_∧k_ ≠ Zd))) (fun _ hk=>hk.2) (.int .i64 t959)) (fun _ hk=>hk.2) (.int .i64 t960)) (fun _ hk=>hk.2) (.slice Zq t961.length Zp)) (fun _ h_=>h_.1)))) hb);replace ZG:=aQ (Kd.N_below (nN ((Kd.N_mono (Kd.N_far (p:=⟨Zd,2,none⟩) (Kd.N_far (p:=⟨Zd,1,none⟩) (Kd.N_far (p:=⟨Zd,0,none⟩) (Kd.N_mono ZG.out (fun k_ hk=>(⟨hk,hk.2⟩:_∧k_ ≠ Zd))) (fun _ hk=>hk.2) (.int .i64 t959)) (fun _ hk=>hk.2) (.int .i64 t960)) (fun _ hk=>hk.2) (.slice Zq t961.length Zp)) (fun _ h_=>h_.1)))) hb);replace ZY:=aQ (Kd.N_below (nN ((Kd.N_mono (Kd.N_far (p:=⟨Zd,2,none⟩) (Kd.N_far (p:=⟨Zd,1,none⟩) (Kd.N_far (p:=⟨Zd,0,none⟩) (Kd.N_mono ZY.out (fun k_ hk=>(⟨hk,hk.2⟩:_∧k_ ≠ Zd))) (fun _ hk=>hk.2) (.int .i64 t959)) (fun _ hk=>hk.2) (.int .i64 t960)) (fun _ hk=>hk.2) (.slice Zq t961.length Zp)) (fun _ h_=>h_.1)))) hb);replace Zh:=aQ (blk_below (g:=Zg) (o:=.cells #[.int .i64 t945,.int .i64 t946,.slice Zo t947.length Zn] 29 (0,0)) bF hb);replace Zi:=aQ (blk_below (g:=Zf) (o:=.cells #[.int .i64 t952,.int .i64 t953,.slice Zs t954.length Zr] 29 (0,0)) bF hb);replace Zk:=aQ (blk_below (g:=Zd) (o:=.cells #[.int .i64 t959,.int .i64 t960,.slice Zq t961.length Zp] 29 (0,0)) bP hb);replace HB:=aQ (below_step bB hb);(try clear hb)))
   go_meet
   case rel=>exact ⟨_,(true),rfl,H',⟨by first | omega | exact Nat.le_refl _⟩,⟨nN (Kd.N_mono Zx.out (fun _ hk=>⟨hk.1.1.1.2,⟨hk.1.2,⟨hk.1.1.1.1.2,⟨hk.1.1.2,hk.2⟩⟩⟩⟩))⟩,⟨nN (Kd.N_mono ZG.out (fun _ hk=>⟨hk.1.1.1.1,⟨hk.1.2,⟨hk.1.1.1.2,⟨hk.1.1.2,hk.2⟩⟩⟩⟩))⟩,⟨nN (Kd.N_mono ZY.out (fun _ hk=>⟨hk.1.1,⟨hk.1.2.1,⟨hk.1.2.2.1,⟨hk.1.2.2.2,hk.2⟩⟩⟩⟩))⟩,⟨nB Zh.out⟩,⟨nB Zi.out⟩,⟨nB Zk.out⟩,⟨bB⟩⟩
 case rest =>
  clear YL
  try clear c2b0
  try clear c2b1
  try clear Yt
  try clear Yu
  try clear Yv
  try clear Yz
  try clear YA
  try clear YB
  try clear YF
  try clear YG
  try clear YH
  try clear YM
  try clear YN
  try clear YO
  try clear Yw
  try clear Yx
  try clear Yy
  try clear YC
  try clear YD
  try clear YE
  try clear YI
  try clear YJ
  try clear YK
  try clear YP
  try clear YQ
  try clear YR
  obtain ⟨kq,x45_5,rfl,HA,HJ5,Za,Zb,Zc,Zh,Zi,Zk,HB⟩:=hcut
  cases kq with
  | zero=>exact absurd HA.out (by simp [laws_FnClockLater.j0])
  | succ kj5 =>
   have H:=HA.out
   clear HA
   simp only [laws_FnClockLater.j0] at H
   by_cases c37:x45_5 = true
   ·subst c37
    have H1:(some false) = some r:=by rw [if_pos rfl] at H;exact H
    clear H
    have H:=H1
    clear H1
    obtain rfl:=Option.some.inj H
    go_wp2
    go_ret
    exact ⟨rfl,bB⟩
   ·replace c37:=Bool.eq_false_iff.mpr c37
    subst c37
    have H1:(if t957 = true then (laws_FnClockLater.j1 kj5 t950 t957 (t950 == 0) t945 t946 t947 t952 t953 t954) else (laws_FnClockLater.j1 kj5 t950 t957 true t945 t946 t947 t952 t953 t954)) = some r:=by rw [if_neg (show ¬ (false = true) by decide)] at H;exact H
    clear H
    have H:=H1
    clear H1
    have Ys:=aQ H
    clear H
    go_upto_region 8 with (fail)
    go_cut [51] (fun v51 wc=>∃ (kq:Nat) (x51_37:Bool),v51 = .bool x51_37∧Aside0 (laws_FnClockLater.j1 kq t950 t957 x51_37 t945 t946 t947 t952 t953 t954 = some r)∧Aside0 (kq ≤ kj5)∧Aside0 (Kd.N k29 29 wc w.heap.size (fun k_=>some k_ ≠ ((.slice Zs t954.length Zr):Value).ownBlock∧some k_ ≠ ((.slice Zq t961.length Zp):Value).ownBlock∧k_ ≠ Zg∧k_ ≠ Zf∧k_ ≠ Zd) (.slice Zo t947.length Zn) t947)∧Aside0 (Kd.N k29 29 wc w.heap.size (fun k_=>some k_ ≠ ((.slice Zo t947.length Zn):Value).ownBlock∧some k_ ≠ ((.slice Zq t961.length Zp):Value).ownBlock∧k_ ≠ Zg∧k_ ≠ Zf∧k_ ≠ Zd) (.slice Zs t954.length Zr) t954)∧Aside0 (Kd.N k29 29 wc w.heap.size (fun k_=>some k_ ≠ ((.slice Zo t947.length Zn):Value).ownBlock∧some k_ ≠ ((.slice Zs t954.length Zr):Value).ownBlock∧k_ ≠ Zg∧k_ ≠ Zf∧k_ ≠ Zd) (.slice Zq t961.length Zp) t961)∧Aside0 (wc.heap[Zg]? = some (.cells #[.int .i64 t945,.int .i64 t946,(.slice Zo t947.length Zn)] 29 (0,0)))∧Aside0 (wc.heap[Zf]? = some (.cells #[.int .i64 t952,.int .i64 t953,(.slice Zs t954.length Zr)] 29 (0,0)))∧Aside0 (wc.heap[Zd]? = some (.cells #[.int .i64 t959,.int .i64 t960,(.slice Zq t961.length Zp)] 29 (0,0)))∧Aside0 (Below w.heap.size w wc))
    case first =>
     have H:=Ys.out
     clear Ys
     by_cases c39:t957 = true
     ·subst c39
      have H1:(laws_FnClockLater.j1 kj5 t950 true (t950 == 0) t945 t946 t947 t952 t953 t954) = some r:=by rw [if_pos rfl] at H;exact H
      clear H
      have H:=H1
      clear H1
      have H':=aQ H
      clear H
      go_wp2
      go_meet
      case rel=>exact ⟨_,((t950 == 0)),rfl,H',⟨by have:=HJ5.out;first | omega | exact Nat.le_refl _⟩,⟨nN Za.out⟩,⟨nN Zb.out⟩,⟨nN Zc.out⟩,⟨nB Zh.out⟩,⟨nB Zi.out⟩,⟨nB Zk.out⟩,⟨bB⟩⟩
     ·replace c39:=Bool.eq_false_iff.mpr c39
      subst c39
      have H1:(laws_FnClockLater.j1 kj5 t950 false true t945 t946 t947 t952 t953 t954) = some r:=by rw [if_neg (show ¬ (false = true) by decide)] at H;exact H
      clear H
      have H:=H1
      clear H1
      have H':=aQ H
      clear H
      go_wp2
      go_meet
      case rel=>exact ⟨_,(true),rfl,H',⟨by have:=HJ5.out;first | omega | exact Nat.le_refl _⟩,⟨nN Za.out⟩,⟨nN Zb.out⟩,⟨nN Zc.out⟩,⟨nB Zh.out⟩,⟨nB Zi.out⟩,⟨nB Zk.out⟩,⟨bB⟩⟩
    case rest =>
     clear Ys
     obtain ⟨kq,x51_37,rfl,HA,HJ37,Za,Zb,Zc,Zh,Zi,Zk,HB⟩:=hcut
     cases kq with
     | zero=>exact absurd HA.out (by simp [laws_FnClockLater.j1])
     | succ kj37 =>
      have H:=HA.out
      clear HA
      simp only [laws_FnClockLater.j1] at H
      by_cases c40:x51_37 = true
      ·subst c40
       have H1:(if t957 = true then ((laws_mnClock.f kj37 t952 t953 t954 t945 t946 t947).bind fun t967=>(some t967)) else (some true)) = some r:=by rw [if_pos rfl] at H;exact H
       clear H
       have H:=H1
       clear H1
       by_cases c41:t957 = true
       ·subst c41
        have H1:((laws_mnClock.f kj37 t952 t953 t954 t945 t946 t947).bind fun t967=>(some t967)) = some r:=by rw [if_pos rfl] at H;exact H
        clear H
        have H:=H1
        clear H1
        obtain ⟨t967,A42,H⟩:=bQ H
        replace H:(some t967) = some r:=H
        obtain rfl:=Option.some.inj H
        have Sz:=ZK.out
        have SA:=ZH.out
        have SB:=ZJ.out
        have SC:=ZM.out
        obtain ⟨VE,VF,VG,VH,VI,VJ⟩:=cz3 Zi.out
        have SD:=ZI.out
        have SE:=ZL.out
        obtain ⟨VK,VL,VM,VN,VO,VP⟩:=cz3 Zh.out
        go_wp2_with (first | (go_at_call 32;(with_reducible refine (laws_mnClock.calls kj37 t952 t953 _ _ t954 t945 t946 _ _ t947 t967 _ ?Zu ?Zw ?Yj ?Yk A42.out).mono ?_);(case Zu=>repeat (first | exact (Kd.N_reads' Zb.out).2.2 | (with_reducible refine Kd.C_alloc ?_ _) | (with_reducible refine Kd.C_drewN ?_ _) | (with_reducible refine Kd.C_drew ?_)));(case Zw=>exact (Kd.N_reads' Zb.out).2.1);(case Yj=>repeat (first | exact (Kd.N_reads' Za.out).2.2 | (with_reducible refine Kd.C_alloc ?_ _) | (with_reducible refine Kd.C_drewN ?_ _) | (with_reducible refine Kd.C_drew ?_)));(case Yk=>exact (Kd.N_reads' Za.out).2.1);rintro e w48 ⟨rfl,hb⟩;replace Za:=aQ (Kd.N_below (nN Za.out) hb);replace Zb:=aQ (Kd.N_below (nN Zb.out) hb);replace Zc:=aQ (Kd.N_below (nN Zc.out) hb);replace Zh:=aQ (blk_below (nB Zh.out) hb);replace Zi:=aQ (blk_below (nB Zi.out) hb);replace Zk:=aQ (blk_below (nB Zk.out) hb);replace HB:=aQ (below_step bB hb);(try clear hb)))
        go_ret
        exact ⟨rfl,bB⟩
       ·replace c41:=Bool.eq_false_iff.mpr c41
        subst c41
        have H1:(some true) = some r:=by rw [if_neg (show ¬ (false = true) by decide)] at H;exact H
        clear H
        have H:=H1
        clear H1
        obtain rfl:=Option.some.inj H
        go_wp2
        go_ret
        exact ⟨rfl,bB⟩
      ·replace c40:=Bool.eq_false_iff.mpr c40
       subst c40
       have H1:((impl_ClockLater.f kj37 t945 t946 t947 (wrap64 (t950 - 1))).bind fun bt968=>((impl_ClockPass.f kj37 bt968.1 bt968.2.1 bt968.2.2.1).bind fun bt975=>((impl_ClockSteps.f kj37 bt968.1 bt968.2.1 bt968.2.2.1).bind fun bt982=>((impl_ClockSteps.f kj37 t952 t953 t954).bind fun bt986=>(if bt968.2.2.2 = true then (if bt975.2.2.2 = true then ((laws_mnClock.f kj37 bt975.1 bt975.2.1 bt975.2.2.1 t952 t953 t954).bind fun t990=>(if t990 = true then (some (decide ((bt982.1.length:Int) ≤ (bt986.1.length:Int)))) else (some false))) else (some false)) else (some false)))))) = some r:=by rw [if_neg (show ¬ (false = true) by decide)] at H;exact H
       clear H
       have H:=H1
       clear H1
       obtain ⟨⟨t968,t969,t970,t973⟩,A49,H⟩:=bQ H
       dsimp only at H
       obtain ⟨⟨t975,t976,t977,t980⟩,A50,H⟩:=bQ H
       dsimp only at H
       obtain ⟨⟨t982,t985⟩,A51,H⟩:=bQ H
       dsimp only at H
       obtain ⟨⟨t986,t989⟩,A52,H⟩:=bQ H
       dsimp only at H
       by_cases c53:t973 = true
       ·subst c53
        have H1:(if t980 = true then ((laws_mnClock.f kj37 t975 t976 t977 t952 t953 t954).bind fun t990=>(if t990 = true then (some (decide ((t982.length:Int) ≤ (t986.length:Int)))) else (some false))) else (some false)) = some r:=by rw [if_pos rfl] at H;exact H
        clear H
        have H:=H1
        clear H1
        by_cases c54:t980 = true
        ·subst c54
         have H1:((laws_mnClock.f kj37 t975 t976 t977 t952 t953 t954).bind fun t990=>(if t990 = true then (some (decide ((t982.length:Int) ≤ (t986.length:Int)))) else (some false))) = some r:=by rw [if_pos rfl] at H;exact H
         clear H
         have H:=H1
         clear H1
         obtain ⟨t990,A55,H⟩:=bQ H
         (try dsimp only at H)
         by_cases c56:t990 = true
         ·subst c56
          have H1:(some (decide ((t982.length:Int) ≤ (t986.length:Int)))) = some r:=by rw [if_pos rfl] at H;exact H
          clear H
          have H:=H1
          clear H1
          obtain rfl:=Option.some.inj H
          have SF:=ZH.out
          have SG:=ZK.out
          have SH:=ZI.out
          have SI:=ZL.out
          obtain ⟨VQ,VR,VS,VT,VU,VV⟩:=cz3 Zh.out
          go_wp2_with (first | ((with_reducible refine gate_callee (f:=34) rfl ?_);refine goesL_ (some 63) rfl rfl Try.func34 (by kernel_rfl) rfl #[.agg #[.int .i64 t945,.int .i64 t946,.slice Zo t947.length Zn],.int .i64 (wrap64 (t950 - 1))] rfl mP ?_;(with_reducible refine (impl_ClockLater.calls kj37 t945 t946 _ _ t947 (wrap64 (t950 - 1)) t968 t969 t970 true _ ?Zu ?Zw A49.out).mono ?_);(case Zu=>repeat (first | exact (Kd.N_reads' Za.out).2.2 | (with_reducible refine Kd.C_alloc ?_ _) | (with_reducible refine Kd.C_drewN ?_ _) | (with_reducible refine Kd.C_drew ?_)));(case Zw=>exact (Kd.N_reads' Za.out).2.1);rintro e w60 ⟨v971,rfl,ho0,hb⟩;refine ⟨_,rfl,?_⟩;have Zl:=aQ (Kd.N_lower (Kd.N_mono (ok':=fun k_=>some k_ ≠ (.slice Zo t947.length Zn:Value).ownBlock∧some k_ ≠ (.slice Zs t954.length Zr:Value).ownBlock∧some k_ ≠ (.slice Zq t961.length Zp:Value).ownBlock∧k_ ≠ Zg∧k_ ≠ Zf∧k_ ≠ Zd) ho0 (fun k_ hk_=>⟨(Kd.fresh' (Kd.N_lt (nN Za.out)) k_ hk_),(Kd.fresh' (Kd.N_lt (nN Zb.out)) k_ hk_),(Kd.fresh' (Kd.N_lt (nN Zc.out)) k_ hk_),(Kd.freshB (nB Zh.out) k_ hk_),(Kd.freshB (nB Zi.out) k_ hk_),(Kd.freshB (nB Zk.out) k_ hk_)⟩)) (below_size bB));replace Za:=aQ (Kd.N_elder' (nN Za.out) (Kd.N_base ho0) hb);replace Zb:=aQ (Kd.N_elder' (nN Zb.out) (Kd.N_base ho0) hb);replace Zc:=aQ (Kd.N_elder' (nN Zc.out) (Kd.N_base ho0) hb);replace Zh:=aQ (blk_below (nB Zh.out) hb);replace Zi:=aQ (blk_below (nB Zi.out) hb);replace Zk:=aQ (blk_below (nB Zk.out) hb);replace HB:=aQ (below_step bB hb);(try clear hb);(try clear ho0)) | ((with_reducible refine gate_dst (N:=9) rfl ?_);(try (refine gate_guard (by rfl) ?_;dsimp only));refine box1 (N:=9) (cs:=#[.int .i64 0,.int .i64 0,.slice none 0 0]) (t:=29) ?_;intro Ze hg w61 hbox hb;replace Za:=aQ (Kd.N_below (Kd.N_elderB (nN Za.out) Ze (Nat.le_of_eq hg.symm)) hb);replace Zb:=aQ (Kd.N_below (Kd.N_elderB (nN Zb.out) Ze (Nat.le_of_eq hg.symm)) hb);replace Zc:=aQ (Kd.N_below (Kd.N_elderB (nN Zc.out) Ze (Nat.le_of_eq hg.symm)) hb);replace Zl:=aQ (Kd.N_below (Kd.N_elderB (nN Zl.out) Ze (Nat.le_of_eq hg.symm)) hb);have Zm:=aQ (hbox);have Yo:=aQ (gB:w.heap.size ≤ Ze);have Yq:=Yo;replace HB:=aQ (below_step bB hb);have Zy:=aQ ((by rw [hg];exact Nat.ne_of_lt (blk_lt (nB Zh.out)):Zg ≠ Ze));have ZR:=aQ Zy.out.symm;replace Zh:=aQ (blk_below (nB Zh.out) hb);have Zz:=aQ ((by rw [hg];exact Nat.ne_of_lt (blk_lt (nB Zi.out)):Zf ≠ Ze));have ZS:=aQ Zz.out.symm;replace Zi:=aQ (blk_below (nB Zi.out) hb);have ZA:=aQ ((by rw [hg];exact Nat.ne_of_lt (blk_lt (nB Zk.out)):Zd ≠ Ze));have ZT:=aQ ZA.out.symm;replace Zk:=aQ (blk_below (nB Zk.out) hb);clear hb hbox hg;have SJ:=ZR.out;have SK:=Zy.out;have SL:=ZS.out;have SM:=Zz.out;have SN:=ZT.out;have SO:=ZA.out;obtain ⟨VW,VX,VY,VZ,Ua,Ub⟩:=cz3 Zm.out;obtain ⟨ZZ,Ya,Xd⟩:=Kd.N_slice Zl.out;subst Xd) | ((with_reducible refine gate_store (t:=29) (p:=9) rfl ?_);refine store_event (t:=29) (p:=9) (v:=?vo_w67) (w1:=(((w61.setCell ⟨Ze,0,none⟩ (.int .i64 t968)).setCell ⟨Ze,1,none⟩ (.int .i64 t969)).setCell ⟨Ze,2,none⟩ (.slice ZZ t970.length Ya))) ?hg ?ho ?hn ?hr ?_;(case ho=>rfl);(case hg=>rfl);(case hn=>rfl);(case hr=>first | (go_simp;done) | (go_simp;rfl));intro w67 hw;have n0_:Aside0 (Kd.N k29 29 w67 w.heap.size (fun k_=>some k_ ≠ (.slice Zs t954.length Zr:Value).ownBlock∧some k_ ≠ (.slice Zq t961.length Zp:Value).ownBlock∧some k_ ≠ (.slice ZZ t970.length Ya:Value).ownBlock∧k_ ≠ Zg∧k_ ≠ Zf∧k_ ≠ Zd∧k_ ≠ Ze) (.slice Zo t947.length Zn) t947):=⟨(by rw [hw];exact (Kd.N_mono (nFN (g:=Ze) Za.out (fun k_ hk=>hk.2)) (fun _ hk=>⟨hk.1.1.1,⟨hk.1.1.2.1,⟨hk.1.2,⟨hk.1.1.2.2.1,⟨hk.1.1.2.2.2.1,⟨hk.1.1.2.2.2.2,hk.2⟩⟩⟩⟩⟩⟩)))⟩;have n1_:Aside0 (Kd.N k29 29 w67 w.heap.size (fun k_=>some k_ ≠ (.slice Zo t947.length Zn:Value).ownBlock∧some k_ ≠ (.slice Zq t961.length Zp:Value).ownBlock∧some k_ ≠ (.slice ZZ t970.length Ya:Value).ownBlock∧k_ ≠ Zg∧k_ ≠ Zf∧k_ ≠ Zd∧k_ ≠ Ze) (.slice Zs t954.length Zr) t954):=⟨(by rw [hw];exact (Kd.N_mono (nFN (g:=Ze) Zb.out (fun k_ hk=>hk.2)) (fun _ hk=>⟨hk.1.1.1,⟨hk.1.1.2.1,⟨hk.1.2,⟨hk.1.1.2.2.1,⟨hk.1.1.2.2.2.1,⟨hk.1.1.2.2.2.2,hk.2⟩⟩⟩⟩⟩⟩)))⟩;have n2_:Aside0 (Kd.N k29 29 w67 w.heap.size (fun k_=>some k_ ≠ (.slice Zo t947.length Zn:Value).ownBlock∧some k_ ≠ (.slice Zs t954.length Zr:Value).ownBlock∧some k_ ≠ (.slice ZZ t970.length Ya:Value).ownBlock∧k_ ≠ Zg∧k_ ≠ Zf∧k_ ≠ Zd∧k_ ≠ Ze) (.slice Zq t961.length Zp) t961):=⟨(by rw [hw];exact (Kd.N_mono (nFN (g:=Ze) Zc.out (fun k_ hk=>hk.2)) (fun _ hk=>⟨hk.1.1.1,⟨hk.1.1.2.1,⟨hk.1.2,⟨hk.1.1.2.2.1,⟨hk.1.1.2.2.2.1,⟨hk.1.1.2.2.2.2,hk.2⟩⟩⟩⟩⟩⟩)))⟩;have n3_:Aside0 (Kd.N k29 29 w67 w.heap.size (fun k_=>some k_ ≠ (.slice Zo t947.length Zn:Value).ownBlock∧some k_ ≠ (.slice Zs t954.length Zr:Value).ownBlock∧some k_ ≠ (.slice Zq t961.length Zp:Value).ownBlock∧k_ ≠ Zg∧k_ ≠ Zf∧k_ ≠ Zd∧k_ ≠ Ze) (.slice ZZ t970.length Ya) t970):=⟨(by rw [hw];exact (Kd.N_mono (nFN (g:=Ze) Zl.out (fun k_ hk=>hk.2)) (fun _ hk=>⟨hk.1.1,⟨hk.1.2.1,⟨hk.1.2.2.1,⟨hk.1.2.2.2.1,⟨hk.1.2.2.2.2.1,⟨hk.1.2.2.2.2.2,hk.2⟩⟩⟩⟩⟩⟩)))⟩;have n4_:Aside0 (w67.heap[Zg]? = some (.cells #[.int .i64 t945,.int .i64 t946,.slice Zo t947.length Zn] 29 (0,0))):=⟨(by rw [hw];exact bF)⟩;have n5_:Aside0 (w67.heap[Zf]? = some (.cells #[.int .i64 t952,.int .i64 t953,.slice Zs t954.length Zr] 29 (0,0))):=⟨(by rw [hw];exact bF)⟩;have n6_:Aside0 (w67.heap[Zd]? = some (.cells #[.int .i64 t959,.int .i64 t960,.slice Zq t961.length Zp] 29 (0,0))):=⟨(by rw [hw];exact bF)⟩;have n7_:Aside0 (w67.heap[Ze]? = some (.cells #[.int .i64 t968,.int .i64 t969,.slice ZZ t970.length Ya] 29 (0,0))):=⟨(by rw [hw];exact bP)⟩;have n8_:Aside0 (Below w.heap.size w w67):=⟨(by rw [hw];exact bB)⟩;clear hw;clear Za;clear Zb;clear Zc;clear Zl;clear Zh;clear Zi;clear Zk;clear Zm;clear HB;have Za:=n0_;have Zb:=n1_;have Zc:=n2_;have Zl:=n3_;have Zh:=n4_;have Zi:=n5_;have Zk:=n6_;have Zm:=n7_;have HB:=n8_;clear n0_ n1_ n2_ n3_ n4_ n5_ n6_ n7_ n8_;obtain ⟨Uc,Ud,Ue,Uf,Ug,Uh⟩:=cz3 Zm.out) | ((with_reducible refine gate_callee (f:=25) rfl ?_);refine goesL_ (some 68) rfl rfl Try.func25 (by kernel_rfl) rfl #[.agg #[.int .i64 t968,.int .i64 t969,.slice ZZ t970.length Ya]] rfl mP ?_;(with_reducible refine (impl_ClockPass.calls kj37 t968 t969 (fun k_=>(some k_ ≠ (.slice Zo t947.length Zn:Value).ownBlock∧(some k_ ≠ (.slice Zs t954.length Zr:Value).ownBlock∧(some k_ ≠ (.slice Zq t961.length Zp:Value).ownBlock∧(k_ ≠ Zg∧(k_ ≠ Zf∧(k_ ≠ Zd∧k_ ≠ Ze))))))) _ _ t970 t975 t976 t977 true _ ?Zu A50.out).mono ?_);(case Zu=>exact Kd.N_V (Zl.out));rintro e w69 ⟨v978,rfl,ho0,hb⟩;refine ⟨_,rfl,?_⟩;replace Zl:=aQ (Kd.N_elder' (nN Zl.out) (Kd.N_base ho0) hb);have Zt:=aQ (Kd.N_lower (Kd.N_mono (ok':=fun k_=>some k_ ≠ (.slice Zo t947.length Zn:Value).ownBlock∧some k_ ≠ (.slice Zs t954.length Zr:Value).ownBlock∧some k_ ≠ (.slice Zq t961.length Zp:Value).ownBlock∧k_ ≠ Zg∧k_ ≠ Zf∧k_ ≠ Zd∧k_ ≠ Ze) ho0 (fun k_ hk_=>⟨Or.elim hk_ (fun hs_=>hs_.1) (fun hn_=>(Kd.fresh' (Kd.N_lt (nN Za.out)) k_ hn_)),Or.elim hk_ (fun hs_=>hs_.2.1) (fun hn_=>(Kd.fresh' (Kd.N_lt (nN Zb.out)) k_ hn_)),Or.elim hk_ (fun hs_=>hs_.2.2.1) (fun hn_=>(Kd.fresh' (Kd.N_lt (nN Zc.out)) k_ hn_)),Or.elim hk_ (fun hs_=>hs_.2.2.2.1) (fun hn_=>(Kd.freshB (nB Zh.out) k_ hn_)),Or.elim hk_ (fun hs_=>hs_.2.2.2.2.1) (fun hn_=>(Kd.freshB (nB Zi.out) k_ hn_)),Or.elim hk_ (fun hs_=>hs_.2.2.2.2.2.1) (fun hn_=>(Kd.freshB (nB Zk.out) k_ hn_)),Or.elim hk_ (fun hs_=>hs_.2.2.2.2.2.2) (fun hn_=>(Kd.freshB (nB Zm.out) k_ hn_))⟩)) (below_size bB));replace Za:=aQ (Kd.N_elder' (nN Za.out) (Kd.N_base ho0) hb);replace Zb:=aQ (Kd.N_elder' (nN Zb.out) (Kd.N_base ho0) hb);replace Zc:=aQ (Kd.N_elder' (nN Zc.out) (Kd.N_base ho0) hb);replace Zh:=aQ (blk_below (nB Zh.out) hb);replace Zi:=aQ (blk_below (nB Zi.out) hb);replace Zk:=aQ (blk_below (nB Zk.out) hb);replace Zm:=aQ (blk_below (nB Zm.out) hb);replace HB:=aQ (below_step bB hb);(try clear hb);(try clear ho0)) | ((with_reducible refine gate_dst (N:=11) rfl ?_);(try (refine gate_guard (by rfl) ?_;dsimp only));refine box1 (N:=11) (cs:=#[.int .i64 0,.int .i64 0,.slice none 0 0]) (t:=29) ?_;intro Zj hg w70 hbox hb;replace Za:=aQ (Kd.N_below (Kd.N_elderB (nN Za.out) Zj (Nat.le_of_eq hg.symm)) hb);replace Zb:=aQ (Kd.N_below (Kd.N_elderB (nN Zb.out) Zj (Nat.le_of_eq hg.symm)) hb);replace Zc:=aQ (Kd.N_below (Kd.N_elderB (nN Zc.out) Zj (Nat.le_of_eq hg.symm)) hb);replace Zl:=aQ (Kd.N_below (Kd.N_elderB (nN Zl.out) Zj (Nat.le_of_eq hg.symm)) hb);replace Zt:=aQ (Kd.N_below (Kd.N_elderB (nN Zt.out) Zj (Nat.le_of_eq hg.symm)) hb);have Zv:=aQ (hbox);have Yp:=aQ (gB:w.heap.size ≤ Zj);have Yr:=Yp;replace HB:=aQ (below_step bB hb);have ZB:=aQ ((by rw [hg];exact Nat.ne_of_lt (blk_lt (nB Zh.out)):Zg ≠ Zj));have ZU:=aQ ZB.out.symm;replace Zh:=aQ (blk_below (nB Zh.out) hb);have ZC:=aQ ((by rw [hg];exact Nat.ne_of_lt (blk_lt (nB Zi.out)):Zf ≠ Zj));have ZV:=aQ ZC.out.symm;replace Zi:=aQ (blk_below (nB Zi.out) hb);have ZD:=aQ ((by rw [hg];exact Nat.ne_of_lt (blk_lt (nB Zk.out)):Zd ≠ Zj));have ZW:=aQ ZD.out.symm;replace Zk:=aQ (blk_below (nB Zk.out) hb);have ZE:=aQ ((by rw [hg];exact Nat.ne_of_lt (blk_lt (nB Zm.out)):Ze ≠ Zj));have ZX:=aQ ZE.out.symm;replace Zm:=aQ (blk_below (nB Zm.out) hb);clear hb hbox hg;have SP:=ZU.out;have SQ:=ZB.out;have SR:=ZV.out;have SS:=ZC.out;have ST:=ZW.out;have SU:=ZD.out;have SV:=ZX.out;have SW:=ZE.out;obtain ⟨Ui,Uj,Uk,Ul,Um,Un⟩:=cz3 Zv.out;obtain ⟨Yl,Ym,Xe⟩:=Kd.N_slice Zt.out;subst Xe) | ((with_reducible refine gate_store (t:=29) (p:=11) rfl ?_);refine store_event (t:=29) (p:=11) (v:=?vo_w77) (w1:=(((w70.setCell ⟨Zj,0,none⟩ (.int .i64 t975)).setCell ⟨Zj,1,none⟩ (.int .i64 t976)).setCell ⟨Zj,2,none⟩ (.slice Yl t977.length Ym))) ?hg ?ho ?hn ?hr ?_;(case ho=>rfl);(case hg=>rfl);(case hn=>rfl);(case hr=>first | (go_simp;done) | (go_simp;rfl));intro w77 hw;have n0_:Aside0 (Kd.N k29 29 w77 w.heap.size (fun k_=>some k_ ≠ (.slice Zs t954.length Zr:Value).ownBlock∧some k_ ≠ (.slice Zq t961.length Zp:Value).ownBlock∧some k_ ≠ (.slice ZZ t970.length Ya:Value).ownBlock∧some k_ ≠ (.slice Yl t977.length Ym:Value).ownBlock∧k_ ≠ Zg∧k_ ≠ Zf∧k_ ≠ Zd∧k_ ≠ Ze∧k_ ≠ Zj) (.slice Zo t947.length Zn) t947):=⟨(by rw [hw];exact (Kd.N_mono (nFN (g:=Zj) Za.out (fun k_ hk=>hk.2)) (fun _ hk=>⟨hk.1.1.1,⟨hk.1.1.2.1,⟨hk.1.1.2.2.1,⟨hk.1.2,⟨hk.1.1.2.2.2.1,⟨hk.1.1.2.2.2.2.1,⟨hk.1.1.2.2.2.2.2.1,⟨hk.1.1.2.2.2.2.2.2,hk.2⟩⟩⟩⟩⟩⟩⟩⟩)))⟩;have n1_:Aside0 (Kd.N k29 29 w77 w.heap.size (fun k_=>some k_ ≠ (.slice Zo t947.length Zn:Value).ownBlock∧some k_ ≠ (.slice Zq t961.length Zp:Value).ownBlock∧some k_ ≠ (.slice ZZ t970.length Ya:Value).ownBlock∧some k_ ≠ (.slice Yl t977.length Ym:Value).ownBlock∧k_ ≠ Zg∧k_ ≠ Zf∧k_ ≠ Zd∧k_ ≠ Ze∧k_ ≠ Zj) (.slice Zs t954.length Zr) t954):=⟨(by rw [hw];exact (Kd.N_mono (nFN (g:=Zj) Zb.out (fun k_ hk=>hk.2)) (fun _ hk=>⟨hk.1.1.1,⟨hk.1.1.2.1,⟨hk.1.1.2.2.1,⟨hk.1.2,⟨hk.1.1.2.2.2.1,⟨hk.1.1.2.2.2.2.1,⟨hk.1.1.2.2.2.2.2.1,⟨hk.1.1.2.2.2.2.2.2,hk.2⟩⟩⟩⟩⟩⟩⟩⟩)))⟩;have n2_:Aside0 (Kd.N k29 29 w77 w.heap.size (fun k_=>some k_ ≠ (.slice Zo t947.length Zn:Value).ownBlock∧some k_ ≠ (.slice Zs t954.length Zr:Value).ownBlock∧some k_ ≠ (.slice ZZ t970.length Ya:Value).ownBlock∧some k_ ≠ (.slice Yl t977.length Ym:Value).ownBlock∧k_ ≠ Zg∧k_ ≠ Zf∧k_ ≠ Zd∧k_ ≠ Ze∧k_ ≠ Zj) (.slice Zq t961.length Zp) t961):=⟨(by rw [hw];exact (Kd.N_mono (nFN (g:=Zj) Zc.out (fun k_ hk=>hk.2)) (fun _ hk=>⟨hk.1.1.1,⟨hk.1.1.2.1,⟨hk.1.1.2.2.1,⟨hk.1.2,⟨hk.1.1.2.2.2.1,⟨hk.1.1.2.2.2.2.1,⟨hk.1.1.2.2.2.2.2.1,⟨hk.1.1.2.2.2.2.2.2,hk.2⟩⟩⟩⟩⟩⟩⟩⟩)))⟩;have n3_:Aside0 (Kd.N k29 29 w77 w.heap.size (fun k_=>some k_ ≠ (.slice Zo t947.length Zn:Value).ownBlock∧some k_ ≠ (.slice Zs t954.length Zr:Value).ownBlock∧some k_ ≠ (.slice Zq t961.length Zp:Value).ownBlock∧some k_ ≠ (.slice Yl t977.length Ym:Value).ownBlock∧k_ ≠ Zg∧k_ ≠ Zf∧k_ ≠ Zd∧k_ ≠ Ze∧k_ ≠ Zj) (.slice ZZ t970.length Ya) t970):=⟨(by rw [hw];exact (Kd.N_mono (nFN (g:=Zj) Zl.out (fun k_ hk=>hk.2)) (fun _ hk=>⟨hk.1.1.1,⟨hk.1.1.2.1,⟨hk.1.1.2.2.1,⟨hk.1.2,⟨hk.1.1.2.2.2.1,⟨hk.1.1.2.2.2.2.1,⟨hk.1.1.2.2.2.2.2.1,⟨hk.1.1.2.2.2.2.2.2,hk.2⟩⟩⟩⟩⟩⟩⟩⟩)))⟩;have n4_:Aside0 (Kd.N k29 29 w77 w.heap.size (fun k_=>some k_ ≠ (.slice Zo t947.length Zn:Value).ownBlock∧some k_ ≠ (.slice Zs t954.length Zr:Value).ownBlock∧some k_ ≠ (.slice Zq t961.length Zp:Value).ownBlock∧k_ ≠ Zg∧k_ ≠ Zf∧k_ ≠ Zd∧k_ ≠ Ze∧k_ ≠ Zj) (.slice Yl t977.length Ym) t977):=⟨(by rw [hw];exact (Kd.N_mono (nFN (g:=Zj) Zt.out (fun k_ hk=>hk.2)) (fun _ hk=>⟨hk.1.1,⟨hk.1.2.1,⟨hk.1.2.2.1,⟨hk.1.2.2.2.1,⟨hk.1.2.2.2.2.1,⟨hk.1.2.2.2.2.2.1,⟨hk.1.2.2.2.2.2.2,hk.2⟩⟩⟩⟩⟩⟩⟩)))⟩;have n5_:Aside0 (w77.heap[Zg]? = some (.cells #[.int .i64 t945,.int .i64 t946,.slice Zo t947.length Zn] 29 (0,0))):=⟨(by rw [hw];exact bF)⟩;have n6_:Aside0 (w77.heap[Zf]? = some (.cells #[.int .i64 t952,.int .i64 t953,.slice Zs t954.length Zr] 29 (0,0))):=⟨(by rw [hw];exact bF)⟩;have n7_:Aside0 (w77.heap[Zd]? = some (.cells #[.int .i64 t959,.int .i64 t960,.slice Zq t961.length Zp] 29 (0,0))):=⟨(by rw [hw];exact bF)⟩;have n8_:Aside0 (w77.heap[Ze]? = some (.cells #[.int .i64 t968,.int .i64 t969,.slice ZZ t970.length Ya] 29 (0,0))):=⟨(by rw [hw];exact bF)⟩;have n9_:Aside0 (w77.heap[Zj]? = some (.cells #[.int .i64 t975,.int .i64 t976,.slice Yl t977.length Ym] 29 (0,0))):=⟨(by rw [hw];exact bP)⟩;have n10_:Aside0 (Below w.heap.size w w77):=⟨(by rw [hw];exact bB)⟩;clear hw;clear Za;clear Zb;clear Zc;clear Zl;clear Zt;clear Zh;clear Zi;clear Zk;clear Zm;clear Zv;clear HB;have Za:=n0_;have Zb:=n1_;have Zc:=n2_;have Zl:=n3_;have Zt:=n4_;have Zh:=n5_;have Zi:=n6_;have Zk:=n7_;have Zm:=n8_;have Zv:=n9_;have HB:=n10_;clear n0_ n1_ n2_ n3_ n4_ n5_ n6_ n7_ n8_ n9_ n10_;obtain ⟨Uo,Up,Uq,Ur,Us,Ut⟩:=cz3 Zm.out) | ((with_reducible refine gate_callee (f:=19) rfl ?_);refine goesL_ (some 73) rfl rfl Try.func19 (by kernel_rfl) rfl #[.agg #[.int .i64 t968,.int .i64 t969,.slice ZZ t970.length Ya]] rfl mP ?_;(with_reducible refine (impl_ClockSteps.calls kj37 t968 t969 (fun k_=>(some k_ ≠ (.slice Zo t947.length Zn:Value).ownBlock∧(some k_ ≠ (.slice Zs t954.length Zr:Value).ownBlock∧(some k_ ≠ (.slice Zq t961.length Zp:Value).ownBlock∧(some k_ ≠ (.slice Yl t977.length Ym:Value).ownBlock∧(k_ ≠ Zg∧(k_ ≠ Zf∧(k_ ≠ Zd∧(k_ ≠ Ze∧k_ ≠ Zj))))))))) _ _ t970 t982 t985 _ ?Zu A51.out).mono ?_);(case Zu=>exact Kd.N_V (Zl.out));rintro e w79 ⟨v983,rfl,ho0,hb⟩;refine ⟨_,rfl,?_⟩;replace Zl:=aQ (Kd.N_elder' (nN Zl.out) (Kd.N_base ho0) hb);have ZF:=aQ (Kd.N_lower (Kd.N_mono (ok':=fun k_=>some k_ ≠ (.slice Zo t947.length Zn:Value).ownBlock∧some k_ ≠ (.slice Zs t954.length Zr:Value).ownBlock∧some k_ ≠ (.slice Zq t961.length Zp:Value).ownBlock∧some k_ ≠ (.slice Yl t977.length Ym:Value).ownBlock∧k_ ≠ Zg∧k_ ≠ Zf∧k_ ≠ Zd∧k_ ≠ Ze∧k_ ≠ Zj) ho0 (fun k_ hk_=>⟨Or.elim hk_ (fun hs_=>hs_.1) (fun hn_=>(Kd.fresh' (Kd.N_lt (nN Za.out)) k_ hn_)),Or.elim hk_ (fun hs_=>hs_.2.1) (fun hn_=>(Kd.fresh' (Kd.N_lt (nN Zb.out)) k_ hn_)),Or.elim hk_ (fun hs_=>hs_.2.2.1) (fun hn_=>(Kd.fresh' (Kd.N_lt (nN Zc.out)) k_ hn_)),Or.elim hk_ (fun hs_=>hs_.2.2.2.1) (fun hn_=>(Kd.fresh' (Kd.N_lt (nN Zt.out)) k_ hn_)),Or.elim hk_ (fun hs_=>hs_.2.2.2.2.1) (fun hn_=>(Kd.freshB (nB Zh.out) k_ hn_)),Or.elim hk_ (fun hs_=>hs_.2.2.2.2.2.1) (fun hn_=>(Kd.freshB (nB Zi.out) k_ hn_)),Or.elim hk_ (fun hs_=>hs_.2.2.2.2.2.2.1) (fun hn_=>(Kd.freshB (nB Zk.out) k_ hn_)),Or.elim hk_ (fun hs_=>hs_.2.2.2.2.2.2.2.1) (fun hn_=>(Kd.freshB (nB Zm.out) k_ hn_)),Or.elim hk_ (fun hs_=>hs_.2.2.2.2.2.2.2.2) (fun hn_=>(Kd.freshB (nB Zv.out) k_ hn_))⟩)) (below_size bB));replace Za:=aQ (Kd.N_elder' (nN Za.out) (Kd.N_base ho0) hb);replace Zb:=aQ (Kd.N_elder' (nN Zb.out) (Kd.N_base ho0) hb);replace Zc:=aQ (Kd.N_elder' (nN Zc.out) (Kd.N_base ho0) hb);replace Zt:=aQ (Kd.N_elder' (nN Zt.out) (Kd.N_base ho0) hb);replace Zh:=aQ (blk_below (nB Zh.out) hb);replace Zi:=aQ (blk_below (nB Zi.out) hb);replace Zk:=aQ (blk_below (nB Zk.out) hb);replace Zm:=aQ (blk_below (nB Zm.out) hb);replace Zv:=aQ (blk_below (nB Zv.out) hb);replace HB:=aQ (below_step bB hb);(try clear hb);(try clear ho0);have SX:=ZJ.out;have SY:=ZM.out;obtain ⟨Uu,Uv,Uw,Ux,Uy,Uz⟩:=cz3 Zi.out) | ((with_reducible refine gate_callee (f:=19) rfl ?_);refine goesL_ (some 78) rfl rfl Try.func19 (by kernel_rfl) rfl #[.agg #[.int .i64 t952,.int .i64 t953,.slice Zs t954.length Zr]] rfl mP ?_;(with_reducible refine (impl_ClockSteps.calls kj37 t952 t953 (fun k_=>((some k_ ≠ (.slice Zo t947.length Zn:Value).ownBlock∧(some k_ ≠ (.slice Zq t961.length Zp:Value).ownBlock∧(some k_ ≠ (.slice ZZ t970.length Ya:Value).ownBlock∧(some k_ ≠ (.slice Yl t977.length Ym:Value).ownBlock∧(k_ ≠ Zg∧(k_ ≠ Zf∧(k_ ≠ Zd∧(k_ ≠ Ze∧k_ ≠ Zj))))))))∧some k_ ≠ (v983:Value).ownBlock)) _ _ t954 t986 t989 _ ?Zu A52.out).mono ?_);(case Zu=>exact Kd.N_V (Zb.out));rintro e w82 ⟨v987,rfl,ho0,hb⟩;refine ⟨_,rfl,?_⟩;replace Zb:=aQ (Kd.N_elder' (nN Zb.out) (Kd.N_base ho0) hb);have Yn:=aQ (Kd.N_lower (Kd.N_mono (ok':=fun k_=>some k_ ≠ (.slice Zo t947.length Zn:Value).ownBlock∧some k_ ≠ (.slice Zq t961.length Zp:Value).ownBlock∧some k_ ≠ (.slice ZZ t970.length Ya:Value).ownBlock∧some k_ ≠ (.slice Yl t977.length Ym:Value).ownBlock∧some k_ ≠ (v983:Value).ownBlock∧k_ ≠ Zg∧k_ ≠ Zf∧k_ ≠ Zd∧k_ ≠ Ze∧k_ ≠ Zj) ho0 (fun k_ hk_=>⟨Or.elim hk_ (fun hs_=>hs_.1.1) (fun hn_=>(Kd.fresh' (Kd.N_lt (nN Za.out)) k_ hn_)),Or.elim hk_ (fun hs_=>hs_.1.2.1) (fun hn_=>(Kd.fresh' (Kd.N_lt (nN Zc.out)) k_ hn_)),Or.elim hk_ (fun hs_=>hs_.1.2.2.1) (fun hn_=>(Kd.fresh' (Kd.N_lt (nN Zl.out)) k_ hn_)),Or.elim hk_ (fun hs_=>hs_.1.2.2.2.1) (fun hn_=>(Kd.fresh' (Kd.N_lt (nN Zt.out)) k_ hn_)),Or.elim hk_ (fun hs_=>hs_.2) (fun hn_=>(Kd.fresh' (Kd.N_lt (nN ZF.out)) k_ hn_)),Or.elim hk_ (fun hs_=>hs_.1.2.2.2.2.1) (fun hn_=>(Kd.freshB (nB Zh.out) k_ hn_)),Or.elim hk_ (fun hs_=>hs_.1.2.2.2.2.2.1) (fun hn_=>(Kd.freshB (nB Zi.out) k_ hn_)),Or.elim hk_ (fun hs_=>hs_.1.2.2.2.2.2.2.1) (fun hn_=>(Kd.freshB (nB Zk.out) k_ hn_)),Or.elim hk_ (fun hs_=>hs_.1.2.2.2.2.2.2.2.1) (fun hn_=>(Kd.freshB (nB Zm.out) k_ hn_)),Or.elim hk_ (fun hs_=>hs_.1.2.2.2.2.2.2.2.2) (fun hn_=>(Kd.freshB (nB Zv.out) k_ hn_))⟩)) (below_size bB));replace Za:=aQ (Kd.N_elder' (nN Za.out) (Kd.N_base ho0) hb);replace Zc:=aQ (Kd.N_elder' (nN Zc.out) (Kd.N_base ho0) hb);replace Zl:=aQ (Kd.N_elder' (nN Zl.out) (Kd.N_base ho0) hb);replace Zt:=aQ (Kd.N_elder' (nN Zt.out) (Kd.N_base ho0) hb);replace ZF:=aQ (Kd.N_elder' (nN ZF.out) (Kd.N_base ho0) hb);replace Zh:=aQ (blk_below (nB Zh.out) hb);replace Zi:=aQ (blk_below (nB Zi.out) hb);replace Zk:=aQ (blk_below (nB Zk.out) hb);replace Zm:=aQ (blk_below (nB Zm.out) hb);replace Zv:=aQ (blk_below (nB Zv.out) hb);replace HB:=aQ (below_step bB hb);(try clear hb);(try clear ho0);obtain ⟨UA,UB,UC,UD,UE,UF⟩:=cz3 Zv.out;obtain ⟨UG,UH,UI,UJ,UK,UL⟩:=cz3 Zi.out) | (go_at_call 32;(with_reducible refine (laws_mnClock.calls kj37 t975 t976 _ _ t977 t952 t953 _ _ t954 true _ ?Zu ?Zw ?Yj ?Yk A55.out).mono ?_);(case Zu=>repeat (first | exact (Kd.N_reads' Zt.out).2.2 | (with_reducible refine Kd.C_alloc ?_ _) | (with_reducible refine Kd.C_drewN ?_ _) | (with_reducible refine Kd.C_drew ?_)));(case Zw=>exact (Kd.N_reads' Zt.out).2.1);(case Yj=>repeat (first | exact (Kd.N_reads' Zb.out).2.2 | (with_reducible refine Kd.C_alloc ?_ _) | (with_reducible refine Kd.C_drewN ?_ _) | (with_reducible refine Kd.C_drew ?_)));(case Yk=>exact (Kd.N_reads' Zb.out).2.1);rintro e w85 ⟨rfl,hb⟩;replace Za:=aQ (Kd.N_below (nN Za.out) hb);replace Zb:=aQ (Kd.N_below (nN Zb.out) hb);replace Zc:=aQ (Kd.N_below (nN Zc.out) hb);replace Zl:=aQ (Kd.N_below (nN Zl.out) hb);replace Zt:=aQ (Kd.N_below (nN Zt.out) hb);replace ZF:=aQ (Kd.N_below (nN ZF.out) hb);replace Yn:=aQ (Kd.N_below (nN Yn.out) hb);replace Zh:=aQ (blk_below (nB Zh.out) hb);replace Zi:=aQ (blk_below (nB Zi.out) hb);replace Zk:=aQ (blk_below (nB Zk.out) hb);replace Zm:=aQ (blk_below (nB Zm.out) hb);replace Zv:=aQ (blk_below (nB Zv.out) hb);replace HB:=aQ (below_step bB hb);(try clear hb);obtain ⟨Rj,Rk,Xf⟩:=Kd.N_slice ZF.out;subst Xf;obtain ⟨Rl,Rm,Xg⟩:=Kd.N_slice Yn.out;subst Xg))
          go_ret
          exact ⟨eW,bB⟩
         ·replace c56:=Bool.eq_false_iff.mpr c56
          subst c56
          have H1:(some false) = some r:=by rw [if_neg (show ¬ (false = true) by decide)] at H;exact H
          clear H
          have H:=H1
          clear H1
          obtain rfl:=Option.some.inj H
          have SZ:=ZH.out
          have Ra:=ZK.out
          have Rb:=ZI.out
          have Rc:=ZL.out
          obtain ⟨UM,UN,UO,UP,UQ,UR⟩:=cz3 Zh.out
          go_wp2_with (first | ((with_reducible refine gate_callee (f:=34) rfl ?_);refine goesL_ (some 63) rfl rfl Try.func34 (by kernel_rfl) rfl #[.agg #[.int .i64 t945,.int .i64 t946,.slice Zo t947.length Zn],.int .i64 (wrap64 (t950 - 1))] rfl mP ?_;(with_reducible refine (impl_ClockLater.calls kj37 t945 t946 _ _ t947 (wrap64 (t950 - 1)) t968 t969 t970 true _ ?Zu ?Zw A49.out).mono ?_);(case Zu=>repeat (first | exact (Kd.N_reads' Za.out).2.2 | (with_reducible refine Kd.C_alloc ?_ _) | (with_reducible refine Kd.C_drewN ?_ _) | (with_reducible refine Kd.C_drew ?_)));(case Zw=>exact (Kd.N_reads' Za.out).2.1);rintro e w91 ⟨v971,rfl,ho0,hb⟩;refine ⟨_,rfl,?_⟩;have Zl:=aQ (Kd.N_lower (Kd.N_mono (ok':=fun k_=>some k_ ≠ (.slice Zo t947.length Zn:Value).ownBlock∧some k_ ≠ (.slice Zs t954.length Zr:Value).ownBlock∧some k_ ≠ (.slice Zq t961.length Zp:Value).ownBlock∧k_ ≠ Zg∧k_ ≠ Zf∧k_ ≠ Zd) ho0 (fun k_ hk_=>⟨(Kd.fresh' (Kd.N_lt (nN Za.out)) k_ hk_),(Kd.fresh' (Kd.N_lt (nN Zb.out)) k_ hk_),(Kd.fresh' (Kd.N_lt (nN Zc.out)) k_ hk_),(Kd.freshB (nB Zh.out) k_ hk_),(Kd.freshB (nB Zi.out) k_ hk_),(Kd.freshB (nB Zk.out) k_ hk_)⟩)) (below_size bB));replace Za:=aQ (Kd.N_elder' (nN Za.out) (Kd.N_base ho0) hb);replace Zb:=aQ (Kd.N_elder' (nN Zb.out) (Kd.N_base ho0) hb);replace Zc:=aQ (Kd.N_elder' (nN Zc.out) (Kd.N_base ho0) hb);replace Zh:=aQ (blk_below (nB Zh.out) hb);replace Zi:=aQ (blk_below (nB Zi.out) hb);replace Zk:=aQ (blk_below (nB Zk.out) hb);replace HB:=aQ (below_step bB hb);(try clear hb);(try clear ho0)) | ((with_reducible refine gate_dst (N:=9) rfl ?_);(try (refine gate_guard (by rfl) ?_;dsimp only));refine box1 (N:=9) (cs:=#[.int .i64 0,.int .i64 0,.slice none 0 0]) (t:=29) ?_;intro Ze hg w92 hbox hb;replace Za:=aQ (Kd.N_below (Kd.N_elderB (nN Za.out) Ze (Nat.le_of_eq hg.symm)) hb);replace Zb:=aQ (Kd.N_below (Kd.N_elderB (nN Zb.out) Ze (Nat.le_of_eq hg.symm)) hb);replace Zc:=aQ (Kd.N_below (Kd.N_elderB (nN Zc.out) Ze (Nat.le_of_eq hg.symm)) hb);replace Zl:=aQ (Kd.N_below (Kd.N_elderB (nN Zl.out) Ze (Nat.le_of_eq hg.symm)) hb);have Zm:=aQ (hbox);have Yo:=aQ (gB:w.heap.size ≤ Ze);have Yq:=Yo;replace HB:=aQ (below_step bB hb);have Zy:=aQ ((by rw [hg];exact Nat.ne_of_lt (blk_lt (nB Zh.out)):Zg ≠ Ze));have ZR:=aQ Zy.out.symm;replace Zh:=aQ (blk_below (nB Zh.out) hb);have Zz:=aQ ((by rw [hg];exact Nat.ne_of_lt (blk_lt (nB Zi.out)):Zf ≠ Ze));have ZS:=aQ Zz.out.symm;replace Zi:=aQ (blk_below (nB Zi.out) hb);have ZA:=aQ ((by rw [hg];exact Nat.ne_of_lt (blk_lt (nB Zk.out)):Zd ≠ Ze));have ZT:=aQ ZA.out.symm;replace Zk:=aQ (blk_below (nB Zk.out) hb);clear hb hbox hg;have Rd:=ZR.out;have Re:=Zy.out;have Rf:=ZS.out;have Rg:=Zz.out;have Rh:=ZT.out;have Ri:=ZA.out;obtain ⟨US,UT,UU,UV,UW,UX⟩:=cz3 Zm.out;obtain ⟨Yb,Yc,Xh⟩:=Kd.N_slice Zl.out;subst Xh) | ((with_reducible refine gate_store (t:=29) (p:=9) rfl ?_);refine store_event (t:=29) (p:=9) (v:=?vo_w98) (w1:=(((w92.setCell ⟨Ze,0,none⟩ (.int .i64 t968)).setCell ⟨Ze,1,none⟩ (.int .i64 t969)).setCell ⟨Ze,2,none⟩ (.slice Yb t970.length Yc))) ?hg ?ho ?hn ?hr ?_;(case ho=>rfl);(case hg=>rfl);(case hn=>rfl);(case hr=>first | (go_simp;done) | (go_simp;rfl));intro w98 hw;have n0_:Aside0 (Kd.N k29 29 w98 w.heap.size (fun k_=>some k_ ≠ (.slice Zs t954.length Zr:Value).ownBlock∧some k_ ≠ (.slice Zq t961.length Zp:Value).ownBlock∧some k_ ≠ (.slice Yb t970.length Yc:Value).ownBlock∧k_ ≠ Zg∧k_ ≠ Zf∧k_ ≠ Zd∧k_ ≠ Ze) (.slice Zo t947.length Zn) t947):=⟨(by rw [hw];exact (Kd.N_mono (nFN (g:=Ze) Za.out (fun k_ hk=>hk.2)) (fun _ hk=>⟨hk.1.1.1,⟨hk.1.1.2.1,⟨hk.1.2,⟨hk.1.1.2.2.1,⟨hk.1.1.2.2.2.1,⟨hk.1.1.2.2.2.2,hk.2⟩⟩⟩⟩⟩⟩)))⟩;have n1_:Aside0 (Kd.N k29 29 w98 w.heap.size (fun k_=>some k_ ≠ (.slice Zo t947.length Zn:Value).ownBlock∧some k_ ≠ (.slice Zq t961.length Zp:Value).ownBlock∧some k_ ≠ (.slice Yb t970.length Yc:Value).ownBlock∧k_ ≠ Zg∧k_ ≠ Zf∧k_ ≠ Zd∧k_ ≠ Ze) (.slice Zs t954.length Zr) t954):=⟨(by rw [hw];exact (Kd.N_mono (nFN (g:=Ze) Zb.out (fun k_ hk=>hk.2)) (fun _ hk=>⟨hk.1.1.1,⟨hk.1.1.2.1,⟨hk.1.2,⟨hk.1.1.2.2.1,⟨hk.1.1.2.2.2.1,⟨hk.1.1.2.2.2.2,hk.2⟩⟩⟩⟩⟩⟩)))⟩;have n2_:Aside0 (Kd.N k29 29 w98 w.heap.size (fun k_=>some k_ ≠ (.slice Zo t947.length Zn:Value).ownBlock∧some k_ ≠ (.slice Zs t954.length Zr:Value).ownBlock∧some k_ ≠ (.slice Yb t970.length Yc:Value).ownBlock∧k_ ≠ Zg∧k_ ≠ Zf∧k_ ≠ Zd∧k_ ≠ Ze) (.slice Zq t961.length Zp) t961):=⟨(by rw [hw];exact (Kd.N_mono (nFN (g:=Ze) Zc.out (fun k_ hk=>hk.2)) (fun _ hk=>⟨hk.1.1.1,⟨hk.1.1.2.1,⟨hk.1.2,⟨hk.1.1.2.2.1,⟨hk.1.1.2.2.2.1,⟨hk.1.1.2.2.2.2,hk.2⟩⟩⟩⟩⟩⟩)))⟩;have n3_:Aside0 (Kd.N k29 29 w98 w.heap.size (fun k_=>some k_ ≠ (.slice Zo t947.length Zn:Value).ownBlock∧some k_ ≠ (.slice Zs t954.length Zr:Value).ownBlock∧some k_ ≠ (.slice Zq t961.length Zp:Value).ownBlock∧k_ ≠ Zg∧k_ ≠ Zf∧k_ ≠ Zd∧k_ ≠ Ze) (.slice Yb t970.length Yc) t970):=⟨(by rw [hw];exact (Kd.N_mono (nFN (g:=Ze) Zl.out (fun k_ hk=>hk.2)) (fun _ hk=>⟨hk.1.1,⟨hk.1.2.1,⟨hk.1.2.2.1,⟨hk.1.2.2.2.1,⟨hk.1.2.2.2.2.1,⟨hk.1.2.2.2.2.2,hk.2⟩⟩⟩⟩⟩⟩)))⟩;have n4_:Aside0 (w98.heap[Zg]? = some (.cells #[.int .i64 t945,.int .i64 t946,.slice Zo t947.length Zn] 29 (0,0))):=⟨(by rw [hw];exact bF)⟩;have n5_:Aside0 (w98.heap[Zf]? = some (.cells #[.int .i64 t952,.int .i64 t953,.slice Zs t954.length Zr] 29 (0,0))):=⟨(by rw [hw];exact bF)⟩;have n6_:Aside0 (w98.heap[Zd]? = some (.cells #[.int .i64 t959,.int .i64 t960,.slice Zq t961.length Zp] 29 (0,0))):=⟨(by rw [hw];exact bF)⟩;have n7_:Aside0 (w98.heap[Ze]? = some (.cells #[.int .i64 t968,.int .i64 t969,.slice Yb t970.length Yc] 29 (0,0))):=⟨(by rw [hw];exact bP)⟩;have n8_:Aside0 (Below w.heap.size w w98):=⟨(by rw [hw];exact bB)⟩;clear hw;clear Za;clear Zb;clear Zc;clear Zl;clear Zh;clear Zi;clear Zk;clear Zm;clear HB;have Za:=n0_;have Zb:=n1_;have Zc:=n2_;have Zl:=n3_;have Zh:=n4_;have Zi:=n5_;have Zk:=n6_;have Zm:=n7_;have HB:=n8_;clear n0_ n1_ n2_ n3_ n4_ n5_ n6_ n7_ n8_;obtain ⟨UY,UZ,Ta,Tb,Tc,Td⟩:=cz3 Zm.out) | ((with_reducible refine gate_callee (f:=25) rfl ?_);refine goesL_ (some 68) rfl rfl Try.func25 (by kernel_rfl) rfl #[.agg #[.int .i64 t968,.int .i64 t969,.slice Yb t970.length Yc]] rfl mP ?_;(with_reducible refine (impl_ClockPass.calls kj37 t968 t969 (fun k_=>(some k_ ≠ (.slice Zo t947.length Zn:Value).ownBlock∧(some k_ ≠ (.slice Zs t954.length Zr:Value).ownBlock∧(some k_ ≠ (.slice Zq t961.length Zp:Value).ownBlock∧(k_ ≠ Zg∧(k_ ≠ Zf∧(k_ ≠ Zd∧k_ ≠ Ze))))))) _ _ t970 t975 t976 t977 true _ ?Zu A50.out).mono ?_);(case Zu=>exact Kd.N_V (Zl.out));rintro e w100 ⟨v978,rfl,ho0,hb⟩;refine ⟨_,rfl,?_⟩;replace Zl:=aQ (Kd.N_elder' (nN Zl.out) (Kd.N_base ho0) hb);have Zt:=aQ (Kd.N_lower (Kd.N_mono (ok':=fun k_=>some k_ ≠ (.slice Zo t947.length Zn:Value).ownBlock∧some k_ ≠ (.slice Zs t954.length Zr:Value).ownBlock∧some k_ ≠ (.slice Zq t961.length Zp:Value).ownBlock∧k_ ≠ Zg∧k_ ≠ Zf∧k_ ≠ Zd∧k_ ≠ Ze) ho0 (fun k_ hk_=>⟨Or.elim hk_ (fun hs_=>hs_.1) (fun hn_=>(Kd.fresh' (Kd.N_lt (nN Za.out)) k_ hn_)),Or.elim hk_ (fun hs_=>hs_.2.1) (fun hn_=>(Kd.fresh' (Kd.N_lt (nN Zb.out)) k_ hn_)),Or.elim hk_ (fun hs_=>hs_.2.2.1) (fun hn_=>(Kd.fresh' (Kd.N_lt (nN Zc.out)) k_ hn_)),Or.elim hk_ (fun hs_=>hs_.2.2.2.1) (fun hn_=>(Kd.freshB (nB Zh.out) k_ hn_)),Or.elim hk_ (fun hs_=>hs_.2.2.2.2.1) (fun hn_=>(Kd.freshB (nB Zi.out) k_ hn_)),Or.elim hk_ (fun hs_=>hs_.2.2.2.2.2.1) (fun hn_=>(Kd.freshB (nB Zk.out) k_ hn_)),Or.elim hk_ (fun hs_=>hs_.2.2.2.2.2.2) (fun hn_=>(Kd.freshB (nB Zm.out) k_ hn_))⟩)) (below_size bB));replace Za:=aQ (Kd.N_elder' (nN Za.out) (Kd.N_base ho0) hb);replace Zb:=aQ (Kd.N_elder' (nN Zb.out) (Kd.N_base ho0) hb);replace Zc:=aQ (Kd.N_elder' (nN Zc.out) (Kd.N_base ho0) hb);replace Zh:=aQ (blk_below (nB Zh.out) hb);replace Zi:=aQ (blk_below (nB Zi.out) hb);replace Zk:=aQ (blk_below (nB Zk.out) hb);replace Zm:=aQ (blk_below (nB Zm.out) hb);replace HB:=aQ (below_step bB hb);(try clear hb);(try clear ho0)) | ((with_reducible refine gate_dst (N:=11) rfl ?_);(try (refine gate_guard (by rfl) ?_;dsimp only));refine box1 (N:=11) (cs:=#[.int .i64 0,.int .i64 0,.slice none 0 0]) (t:=29) ?_;intro Zj hg w101 hbox hb;replace Za:=aQ (Kd.N_below (Kd.N_elderB (nN Za.out) Zj (Nat.le_of_eq hg.symm)) hb);replace Zb:=aQ (Kd.N_below (Kd.N_elderB (nN Zb.out) Zj (Nat.le_of_eq hg.symm)) hb);replace Zc:=aQ (Kd.N_below (Kd.N_elderB (nN Zc.out) Zj (Nat.le_of_eq hg.symm)) hb);replace Zl:=aQ (Kd.N_below (Kd.N_elderB (nN Zl.out) Zj (Nat.le_of_eq hg.symm)) hb);replace Zt:=aQ (Kd.N_below (Kd.N_elderB (nN Zt.out) Zj (Nat.le_of_eq hg.symm)) hb);have Zv:=aQ (hbox);have Yp:=aQ (gB:w.heap.size ≤ Zj);have Yr:=Yp;replace HB:=aQ (below_step bB hb);have ZB:=aQ ((by rw [hg];exact Nat.ne_of_lt (blk_lt (nB Zh.out)):Zg ≠ Zj));have ZU:=aQ ZB.out.symm;replace Zh:=aQ (blk_below (nB Zh.out) hb);have ZC:=aQ ((by rw [hg];exact Nat.ne_of_lt (blk_lt (nB Zi.out)):Zf ≠ Zj));have ZV:=aQ ZC.out.symm;replace Zi:=aQ (blk_below (nB Zi.out) hb);have ZD:=aQ ((by rw [hg];exact Nat.ne_of_lt (blk_lt (nB Zk.out)):Zd ≠ Zj));have ZW:=aQ ZD.out.symm;replace Zk:=aQ (blk_below (nB Zk.out) hb);have ZE:=aQ ((by rw [hg];exact Nat.ne_of_lt (blk_lt (nB Zm.out)):Ze ≠ Zj));have ZX:=aQ ZE.out.symm;replace Zm:=aQ (blk_below (nB Zm.out) hb);clear hb hbox hg;have Tg:=ZU.out;have Th:=ZB.out;have Ti:=ZV.out;have Tj:=ZC.out;have Tk:=ZW.out;have Tl:=ZD.out;have Tm:=ZX.out;have Tn:=ZE.out;obtain ⟨Xi,Xj,Xk,Xl,Xm,Xn⟩:=cz3 Zv.out;obtain ⟨Yd,Ye,YV⟩:=Kd.N_slice Zt.out;subst YV) | ((with_reducible refine gate_store (t:=29) (p:=11) rfl ?_);refine store_event (t:=29) (p:=11) (v:=?vo_w108) (w1:=(((w101.setCell ⟨Zj,0,none⟩ (.int .i64 t975)).setCell ⟨Zj,1,none⟩ (.int .i64 t976)).setCell ⟨Zj,2,none⟩ (.slice Yd t977.length Ye))) ?hg ?ho ?hn ?hr ?_;(case ho=>rfl);(case hg=>rfl);(case hn=>rfl);(case hr=>first | (go_simp;done) | (go_simp;rfl));intro w108 hw;have n0_:Aside0 (Kd.N k29 29 w108 w.heap.size (fun k_=>some k_ ≠ (.slice Zs t954.length Zr:Value).ownBlock∧some k_ ≠ (.slice Zq t961.length Zp:Value).ownBlock∧some k_ ≠ (.slice Yb t970.length Yc:Value).ownBlock∧some k_ ≠ (.slice Yd t977.length Ye:Value).ownBlock∧k_ ≠ Zg∧k_ ≠ Zf∧k_ ≠ Zd∧k_ ≠ Ze∧k_ ≠ Zj) (.slice Zo t947.length Zn) t947):=⟨(by rw [hw];exact (Kd.N_mono (nFN (g:=Zj) Za.out (fun k_ hk=>hk.2)) (fun _ hk=>⟨hk.1.1.1,⟨hk.1.1.2.1,⟨hk.1.1.2.2.1,⟨hk.1.2,⟨hk.1.1.2.2.2.1,⟨hk.1.1.2.2.2.2.1,⟨hk.1.1.2.2.2.2.2.1,⟨hk.1.1.2.2.2.2.2.2,hk.2⟩⟩⟩⟩⟩⟩⟩⟩)))⟩;have n1_:Aside0 (Kd.N k29 29 w108 w.heap.size (fun k_=>some k_ ≠ (.slice Zo t947.length Zn:Value).ownBlock∧some k_ ≠ (.slice Zq t961.length Zp:Value).ownBlock∧some k_ ≠ (.slice Yb t970.length Yc:Value).ownBlock∧some k_ ≠ (.slice Yd t977.length Ye:Value).ownBlock∧k_ ≠ Zg∧k_ ≠ Zf∧k_ ≠ Zd∧k_ ≠ Ze∧k_ ≠ Zj) (.slice Zs t954.length Zr) t954):=⟨(by rw [hw];exact (Kd.N_mono (nFN (g:=Zj) Zb.out (fun k_ hk=>hk.2)) (fun _ hk=>⟨hk.1.1.1,⟨hk.1.1.2.1,⟨hk.1.1.2.2.1,⟨hk.1.2,⟨hk.1.1.2.2.2.1,⟨hk.1.1.2.2.2.2.1,⟨hk.1.1.2.2.2.2.2.1,⟨hk.1.1.2.2.2.2.2.2,hk.2⟩⟩⟩⟩⟩⟩⟩⟩)))⟩;have n2_:Aside0 (Kd.N k29 29 w108 w.heap.size (fun k_=>some k_ ≠ (.slice Zo t947.length Zn:Value).ownBlock∧some k_ ≠ (.slice Zs t954.length Zr:Value).ownBlock∧some k_ ≠ (.slice Yb t970.length Yc:Value).ownBlock∧some k_ ≠ (.slice Yd t977.length Ye:Value).ownBlock∧k_ ≠ Zg∧k_ ≠ Zf∧k_ ≠ Zd∧k_ ≠ Ze∧k_ ≠ Zj) (.slice Zq t961.length Zp) t961):=⟨(by rw [hw];exact (Kd.N_mono (nFN (g:=Zj) Zc.out (fun k_ hk=>hk.2)) (fun _ hk=>⟨hk.1.1.1,⟨hk.1.1.2.1,⟨hk.1.1.2.2.1,⟨hk.1.2,⟨hk.1.1.2.2.2.1,⟨hk.1.1.2.2.2.2.1,⟨hk.1.1.2.2.2.2.2.1,⟨hk.1.1.2.2.2.2.2.2,hk.2⟩⟩⟩⟩⟩⟩⟩⟩)))⟩;have n3_:Aside0 (Kd.N k29 29 w108 w.heap.size (fun k_=>some k_ ≠ (.slice Zo t947.length Zn:Value).ownBlock∧some k_ ≠ (.slice Zs t954.length Zr:Value).ownBlock∧some k_ ≠ (.slice Zq t961.length Zp:Value).ownBlock∧some k_ ≠ (.slice Yd t977.length Ye:Value).ownBlock∧k_ ≠ Zg∧k_ ≠ Zf∧k_ ≠ Zd∧k_ ≠ Ze∧k_ ≠ Zj) (.slice Yb t970.length Yc) t970):=⟨(by rw [hw];exact (Kd.N_mono (nFN (g:=Zj) Zl.out (fun k_ hk=>hk.2)) (fun _ hk=>⟨hk.1.1.1,⟨hk.1.1.2.1,⟨hk.1.1.2.2.1,⟨hk.1.2,⟨hk.1.1.2.2.2.1,⟨hk.1.1.2.2.2.2.1,⟨hk.1.1.2.2.2.2.2.1,⟨hk.1.1.2.2.2.2.2.2,hk.2⟩⟩⟩⟩⟩⟩⟩⟩)))⟩;have n4_:Aside0 (Kd.N k29 29 w108 w.heap.size (fun k_=>some k_ ≠ (.slice Zo t947.length Zn:Value).ownBlock∧some k_ ≠ (.slice Zs t954.length Zr:Value).ownBlock∧some k_ ≠ (.slice Zq t961.length Zp:Value).ownBlock∧k_ ≠ Zg∧k_ ≠ Zf∧k_ ≠ Zd∧k_ ≠ Ze∧k_ ≠ Zj) (.slice Yd t977.length Ye) t977):=⟨(by rw [hw];exact (Kd.N_mono (nFN (g:=Zj) Zt.out (fun k_ hk=>hk.2)) (fun _ hk=>⟨hk.1.1,⟨hk.1.2.1,⟨hk.1.2.2.1,⟨hk.1.2.2.2.1,⟨hk.1.2.2.2.2.1,⟨hk.1.2.2.2.2.2.1,⟨hk.1.2.2.2.2.2.2,hk.2⟩⟩⟩⟩⟩⟩⟩)))⟩;have n5_:Aside0 (w108.heap[Zg]? = some (.cells #[.int .i64 t945,.int .i64 t946,.slice Zo t947.length Zn] 29 (0,0))):=⟨(by rw [hw];exact bF)⟩;have n6_:Aside0 (w108.heap[Zf]? = some (.cells #[.int .i64 t952,.int .i64 t953,.slice Zs t954.length Zr] 29 (0,0))):=⟨(by rw [hw];exact bF)⟩;have n7_:Aside0 (w108.heap[Zd]? = some (.cells #[.int .i64 t959,.int .i64 t960,.slice Zq t961.length Zp] 29 (0,0))):=⟨(by rw [hw];exact bF)⟩;have n8_:Aside0 (w108.heap[Ze]? = some (.cells #[.int .i64 t968,.int .i64 t969,.slice Yb t970.length Yc] 29 (0,0))):=⟨(by rw [hw];exact bF)⟩;have n9_:Aside0 (w108.heap[Zj]? = some (.cells #[.int .i64 t975,.int .i64 t976,.slice Yd t977.length Ye] 29 (0,0))):=⟨(by rw [hw];exact bP)⟩;have n10_:Aside0 (Below w.heap.size w w108):=⟨(by rw [hw];exact bB)⟩;clear hw;clear Za;clear Zb;clear Zc;clear Zl;clear Zt;clear Zh;clear Zi;clear Zk;clear Zm;clear Zv;clear HB;have Za:=n0_;have Zb:=n1_;have Zc:=n2_;have Zl:=n3_;have Zt:=n4_;have Zh:=n5_;have Zi:=n6_;have Zk:=n7_;have Zm:=n8_;have Zv:=n9_;have HB:=n10_;clear n0_ n1_ n2_ n3_ n4_ n5_ n6_ n7_ n8_ n9_ n10_;obtain ⟨Xo,Xp,Xq,Xr,Xs,Xt⟩:=cz3 Zm.out) | ((with_reducible refine gate_callee (f:=19) rfl ?_);refine goesL_ (some 73) rfl rfl Try.func19 (by kernel_rfl) rfl #[.agg #[.int .i64 t968,.int .i64 t969,.slice Yb t970.length Yc]] rfl mP ?_;(with_reducible refine (impl_ClockSteps.calls kj37 t968 t969 (fun k_=>(some k_ ≠ (.slice Zo t947.length Zn:Value).ownBlock∧(some k_ ≠ (.slice Zs t954.length Zr:Value).ownBlock∧(some k_ ≠ (.slice Zq t961.length Zp:Value).ownBlock∧(some k_ ≠ (.slice Yd t977.length Ye:Value).ownBlock∧(k_ ≠ Zg∧(k_ ≠ Zf∧(k_ ≠ Zd∧(k_ ≠ Ze∧k_ ≠ Zj))))))))) _ _ t970 t982 t985 _ ?Zu A51.out).mono ?_);(case Zu=>exact Kd.N_V (Zl.out));rintro e w110 ⟨v983,rfl,ho0,hb⟩;refine ⟨_,rfl,?_⟩;replace Zl:=aQ (Kd.N_elder' (nN Zl.out) (Kd.N_base ho0) hb);have ZF:=aQ (Kd.N_lower (Kd.N_mono (ok':=fun k_=>some k_ ≠ (.slice Zo t947.length Zn:Value).ownBlock∧some k_ ≠ (.slice Zs t954.length Zr:Value).ownBlock∧some k_ ≠ (.slice Zq t961.length Zp:Value).ownBlock∧some k_ ≠ (.slice Yd t977.length Ye:Value).ownBlock∧k_ ≠ Zg∧k_ ≠ Zf∧k_ ≠ Zd∧k_ ≠ Ze∧k_ ≠ Zj) ho0 (fun k_ hk_=>⟨Or.elim hk_ (fun hs_=>hs_.1) (fun hn_=>(Kd.fresh' (Kd.N_lt (nN Za.out)) k_ hn_)),Or.elim hk_ (fun hs_=>hs_.2.1) (fun hn_=>(Kd.fresh' (Kd.N_lt (nN Zb.out)) k_ hn_)),Or.elim hk_ (fun hs_=>hs_.2.2.1) (fun hn_=>(Kd.fresh' (Kd.N_lt (nN Zc.out)) k_ hn_)),Or.elim hk_ (fun hs_=>hs_.2.2.2.1) (fun hn_=>(Kd.fresh' (Kd.N_lt (nN Zt.out)) k_ hn_)),Or.elim hk_ (fun hs_=>hs_.2.2.2.2.1) (fun hn_=>(Kd.freshB (nB Zh.out) k_ hn_)),Or.elim hk_ (fun hs_=>hs_.2.2.2.2.2.1) (fun hn_=>(Kd.freshB (nB Zi.out) k_ hn_)),Or.elim hk_ (fun hs_=>hs_.2.2.2.2.2.2.1) (fun hn_=>(Kd.freshB (nB Zk.out) k_ hn_)),Or.elim hk_ (fun hs_=>hs_.2.2.2.2.2.2.2.1) (fun hn_=>(Kd.freshB (nB Zm.out) k_ hn_)),Or.elim hk_ (fun hs_=>hs_.2.2.2.2.2.2.2.2) (fun hn_=>(Kd.freshB (nB Zv.out) k_ hn_))⟩)) (below_size bB));replace Za:=aQ (Kd.N_elder' (nN Za.out) (Kd.N_base ho0) hb);replace Zb:=aQ (Kd.N_elder' (nN Zb.out) (Kd.N_base ho0) hb);replace Zc:=aQ (Kd.N_elder' (nN Zc.out) (Kd.N_base ho0) hb);replace Zt:=aQ (Kd.N_elder' (nN Zt.out) (Kd.N_base ho0) hb);replace Zh:=aQ (blk_below (nB Zh.out) hb);replace Zi:=aQ (blk_below (nB Zi.out) hb);replace Zk:=aQ (blk_below (nB Zk.out) hb);replace Zm:=aQ (blk_below (nB Zm.out) hb);replace Zv:=aQ (blk_below (nB Zv.out) hb);replace HB:=aQ (below_step bB hb);(try clear hb);(try clear ho0);have To:=ZJ.out;have Tp:=ZM.out;obtain ⟨Xu,Xv,Xw,Xx,Xy,Xz⟩:=cz3 Zi.out) | ((with_reducible refine gate_callee (f:=19) rfl ?_);refine goesL_ (some 78) rfl rfl Try.func19 (by kernel_rfl) rfl #[.agg #[.int .i64 t952,.int .i64 t953,.slice Zs t954.length Zr]] rfl mP ?_;(with_reducible refine (impl_ClockSteps.calls kj37 t952 t953 (fun k_=>((some k_ ≠ (.slice Zo t947.length Zn:Value).ownBlock∧(some k_ ≠ (.slice Zq t961.length Zp:Value).ownBlock∧(some k_ ≠ (.slice Yb t970.length Yc:Value).ownBlock∧(some k_ ≠ (.slice Yd t977.length Ye:Value).ownBlock∧(k_ ≠ Zg∧(k_ ≠ Zf∧(k_ ≠ Zd∧(k_ ≠ Ze∧k_ ≠ Zj))))))))∧some k_ ≠ (v983:Value).ownBlock)) _ _ t954 t986 t989 _ ?Zu A52.out).mono ?_);(case Zu=>exact Kd.N_V (Zb.out));rintro e w113 ⟨v987,rfl,ho0,hb⟩;refine ⟨_,rfl,?_⟩;replace Zb:=aQ (Kd.N_elder' (nN Zb.out) (Kd.N_base ho0) hb);have Yn:=aQ (Kd.N_lower (Kd.N_mono (ok':=fun k_=>some k_ ≠ (.slice Zo t947.length Zn:Value).ownBlock∧some k_ ≠ (.slice Zq t961.length Zp:Value).ownBlock∧some k_ ≠ (.slice Yb t970.length Yc:Value).ownBlock∧some k_ ≠ (.slice Yd t977.length Ye:Value).ownBlock∧some k_ ≠ (v983:Value).ownBlock∧k_ ≠ Zg∧k_ ≠ Zf∧k_ ≠ Zd∧k_ ≠ Ze∧k_ ≠ Zj) ho0 (fun k_ hk_=>⟨Or.elim hk_ (fun hs_=>hs_.1.1) (fun hn_=>(Kd.fresh' (Kd.N_lt (nN Za.out)) k_ hn_)),Or.elim hk_ (fun hs_=>hs_.1.2.1) (fun hn_=>(Kd.fresh' (Kd.N_lt (nN Zc.out)) k_ hn_)),Or.elim hk_ (fun hs_=>hs_.1.2.2.1) (fun hn_=>(Kd.fresh' (Kd.N_lt (nN Zl.out)) k_ hn_)),Or.elim hk_ (fun hs_=>hs_.1.2.2.2.1) (fun hn_=>(Kd.fresh' (Kd.N_lt (nN Zt.out)) k_ hn_)),Or.elim hk_ (fun hs_=>hs_.2) (fun hn_=>(Kd.fresh' (Kd.N_lt (nN ZF.out)) k_ hn_)),Or.elim hk_ (fun hs_=>hs_.1.2.2.2.2.1) (fun hn_=>(Kd.freshB (nB Zh.out) k_ hn_)),Or.elim hk_ (fun hs_=>hs_.1.2.2.2.2.2.1) (fun hn_=>(Kd.freshB (nB Zi.out) k_ hn_)),Or.elim hk_ (fun hs_=>hs_.1.2.2.2.2.2.2.1) (fun hn_=>(Kd.freshB (nB Zk.out) k_ hn_)),Or.elim hk_ (fun hs_=>hs_.1.2.2.2.2.2.2.2.1) (fun hn_=>(Kd.freshB (nB Zm.out) k_ hn_)),Or.elim hk_ (fun hs_=>hs_.1.2.2.2.2.2.2.2.2) (fun hn_=>(Kd.freshB (nB Zv.out) k_ hn_))⟩)) (below_size bB));replace Za:=aQ (Kd.N_elder' (nN Za.out) (Kd.N_base ho0) hb);replace Zc:=aQ (Kd.N_elder' (nN Zc.out) (Kd.N_base ho0) hb);replace Zl:=aQ (Kd.N_elder' (nN Zl.out) (Kd.N_base ho0) hb);replace Zt:=aQ (Kd.N_elder' (nN Zt.out) (Kd.N_base ho0) hb);replace ZF:=aQ (Kd.N_elder' (nN ZF.out) (Kd.N_base ho0) hb);replace Zh:=aQ (blk_below (nB Zh.out) hb);replace Zi:=aQ (blk_below (nB Zi.out) hb);replace Zk:=aQ (blk_below (nB Zk.out) hb);replace Zm:=aQ (blk_below (nB Zm.out) hb);replace Zv:=aQ (blk_below (nB Zv.out) hb);replace HB:=aQ (below_step bB hb);(try clear hb);(try clear ho0);obtain ⟨XA,XB,XC,XD,XE,XF⟩:=cz3 Zv.out;obtain ⟨XG,XH,XI,XJ,XK,XL⟩:=cz3 Zi.out) | (go_at_call 32;(with_reducible refine (laws_mnClock.calls kj37 t975 t976 _ _ t977 t952 t953 _ _ t954 false _ ?Zu ?Zw ?Yj ?Yk A55.out).mono ?_);(case Zu=>repeat (first | exact (Kd.N_reads' Zt.out).2.2 | (with_reducible refine Kd.C_alloc ?_ _) | (with_reducible refine Kd.C_drewN ?_ _) | (with_reducible refine Kd.C_drew ?_)));(case Zw=>exact (Kd.N_reads' Zt.out).2.1);(case Yj=>repeat (first | exact (Kd.N_reads' Zb.out).2.2 | (with_reducible refine Kd.C_alloc ?_ _) | (with_reducible refine Kd.C_drewN ?_ _) | (with_reducible refine Kd.C_drew ?_)));(case Yk=>exact (Kd.N_reads' Zb.out).2.1);rintro e w116 ⟨rfl,hb⟩;replace Za:=aQ (Kd.N_below (nN Za.out) hb);replace Zb:=aQ (Kd.N_below (nN Zb.out) hb);replace Zc:=aQ (Kd.N_below (nN Zc.out) hb);replace Zl:=aQ (Kd.N_below (nN Zl.out) hb);replace Zt:=aQ (Kd.N_below (nN Zt.out) hb);replace ZF:=aQ (Kd.N_below (nN ZF.out) hb);replace Yn:=aQ (Kd.N_below (nN Yn.out) hb);replace Zh:=aQ (blk_below (nB Zh.out) hb);replace Zi:=aQ (blk_below (nB Zi.out) hb);replace Zk:=aQ (blk_below (nB Zk.out) hb);replace Zm:=aQ (blk_below (nB Zm.out) hb);replace Zv:=aQ (blk_below (nB Zv.out) hb);replace HB:=aQ (below_step bB hb);(try clear hb)))
          go_ret
          exact ⟨rfl,bB⟩
        ·replace c54:=Bool.eq_false_iff.mpr c54
         subst c54
         have H1:(some false) = some r:=by rw [if_neg (show ¬ (false = true) by decide)] at H;exact H
         clear H
         have H:=H1
         clear H1
         obtain rfl:=Option.some.inj H
         have Tq:=ZH.out
         have Tr:=ZK.out
         have Ts:=ZI.out
         have Tt:=ZL.out
         obtain ⟨XM,XN,XO,XP,XQ,XR⟩:=cz3 Zh.out
         go_wp2_with (first | ((with_reducible refine gate_callee (f:=34) rfl ?_);refine goesL_ (some 63) rfl rfl Try.func34 (by kernel_rfl) rfl #[.agg #[.int .i64 t945,.int .i64 t946,.slice Zo t947.length Zn],.int .i64 (wrap64 (t950 - 1))] rfl mP ?_;(with_reducible refine (impl_ClockLater.calls kj37 t945 t946 _ _ t947 (wrap64 (t950 - 1)) t968 t969 t970 true _ ?Zu ?Zw A49.out).mono ?_);(case Zu=>repeat (first | exact (Kd.N_reads' Za.out).2.2 | (with_reducible refine Kd.C_alloc ?_ _) | (with_reducible refine Kd.C_drewN ?_ _) | (with_reducible refine Kd.C_drew ?_)));(case Zw=>exact (Kd.N_reads' Za.out).2.1);rintro e w120 ⟨v971,rfl,ho0,hb⟩;refine ⟨_,rfl,?_⟩;have Zl:=aQ (Kd.N_lower (Kd.N_mono (ok':=fun k_=>some k_ ≠ (.slice Zo t947.length Zn:Value).ownBlock∧some k_ ≠ (.slice Zs t954.length Zr:Value).ownBlock∧some k_ ≠ (.slice Zq t961.length Zp:Value).ownBlock∧k_ ≠ Zg∧k_ ≠ Zf∧k_ ≠ Zd) ho0 (fun k_ hk_=>⟨(Kd.fresh' (Kd.N_lt (nN Za.out)) k_ hk_),(Kd.fresh' (Kd.N_lt (nN Zb.out)) k_ hk_),(Kd.fresh' (Kd.N_lt (nN Zc.out)) k_ hk_),(Kd.freshB (nB Zh.out) k_ hk_),(Kd.freshB (nB Zi.out) k_ hk_),(Kd.freshB (nB Zk.out) k_ hk_)⟩)) (below_size bB));replace Za:=aQ (Kd.N_elder' (nN Za.out) (Kd.N_base ho0) hb);replace Zb:=aQ (Kd.N_elder' (nN Zb.out) (Kd.N_base ho0) hb);replace Zc:=aQ (Kd.N_elder' (nN Zc.out) (Kd.N_base ho0) hb);replace Zh:=aQ (blk_below (nB Zh.out) hb);replace Zi:=aQ (blk_below (nB Zi.out) hb);replace Zk:=aQ (blk_below (nB Zk.out) hb);replace HB:=aQ (below_step bB hb);(try clear hb);(try clear ho0)) | ((with_reducible refine gate_dst (N:=9) rfl ?_);(try (refine gate_guard (by rfl) ?_;dsimp only));refine box1 (N:=9) (cs:=#[.int .i64 0,.int .i64 0,.slice none 0 0]) (t:=29) ?_;intro Ze hg w121 hbox hb;replace Za:=aQ (Kd.N_below (Kd.N_elderB (nN Za.out) Ze (Nat.le_of_eq hg.symm)) hb);replace Zb:=aQ (Kd.N_below (Kd.N_elderB (nN Zb.out) Ze (Nat.le_of_eq hg.symm)) hb);replace Zc:=aQ (Kd.N_below (Kd.N_elderB (nN Zc.out) Ze (Nat.le_of_eq hg.symm)) hb);replace Zl:=aQ (Kd.N_below (Kd.N_elderB (nN Zl.out) Ze (Nat.le_of_eq hg.symm)) hb);have Zm:=aQ (hbox);have Yo:=aQ (gB:w.heap.size ≤ Ze);have Yq:=Yo;replace HB:=aQ (below_step bB hb);have Zy:=aQ ((by rw [hg];exact Nat.ne_of_lt (blk_lt (nB Zh.out)):Zg ≠ Ze));have ZR:=aQ Zy.out.symm;replace Zh:=aQ (blk_below (nB Zh.out) hb);have Zz:=aQ ((by rw [hg];exact Nat.ne_of_lt (blk_lt (nB Zi.out)):Zf ≠ Ze));have ZS:=aQ Zz.out.symm;replace Zi:=aQ (blk_below (nB Zi.out) hb);have ZA:=aQ ((by rw [hg];exact Nat.ne_of_lt (blk_lt (nB Zk.out)):Zd ≠ Ze));have ZT:=aQ ZA.out.symm;replace Zk:=aQ (blk_below (nB Zk.out) hb);clear hb hbox hg;have Tu:=ZR.out;have Tv:=Zy.out;have Tw:=ZS.out;have Tx:=Zz.out;have Ty:=ZT.out;have Tz:=ZA.out;obtain ⟨XS,XT,XU,XV,XW,XX⟩:=cz3 Zm.out;obtain ⟨ZN,ZO,YW⟩:=Kd.N_slice Zl.out;subst YW) | ((with_reducible refine gate_store (t:=29) (p:=9) rfl ?_);refine store_event (t:=29) (p:=9) (v:=?vo_w127) (w1:=(((w121.setCell ⟨Ze,0,none⟩ (.int .i64 t968)).setCell ⟨Ze,1,none⟩ (.int .i64 t969)).setCell ⟨Ze,2,none⟩ (.slice ZN t970.length ZO))) ?hg ?ho ?hn ?hr ?_;(case ho=>rfl);(case hg=>rfl);(case hn=>rfl);(case hr=>first | (go_simp;done) | (go_simp;rfl));intro w127 hw;have n0_:Aside0 (Kd.N k29 29 w127 w.heap.size (fun k_=>some k_ ≠ (.slice Zs t954.length Zr:Value).ownBlock∧some k_ ≠ (.slice Zq t961.length Zp:Value).ownBlock∧some k_ ≠ (.slice ZN t970.length ZO:Value).ownBlock∧k_ ≠ Zg∧k_ ≠ Zf∧k_ ≠ Zd∧k_ ≠ Ze) (.slice Zo t947.length Zn) t947):=⟨(by rw [hw];exact (Kd.N_mono (nFN (g:=Ze) Za.out (fun k_ hk=>hk.2)) (fun _ hk=>⟨hk.1.1.1,⟨hk.1.1.2.1,⟨hk.1.2,⟨hk.1.1.2.2.1,⟨hk.1.1.2.2.2.1,⟨hk.1.1.2.2.2.2,hk.2⟩⟩⟩⟩⟩⟩)))⟩;have n1_:Aside0 (Kd.N k29 29 w127 w.heap.size (fun k_=>some k_ ≠ (.slice Zo t947.length Zn:Value).ownBlock∧some k_ ≠ (.slice Zq t961.length Zp:Value).ownBlock∧some k_ ≠ (.slice ZN t970.length ZO:Value).ownBlock∧k_ ≠ Zg∧k_ ≠ Zf∧k_ ≠ Zd∧k_ ≠ Ze) (.slice Zs t954.length Zr) t954):=⟨(by rw [hw];exact (Kd.N_mono (nFN (g:=Ze) Zb.out (fun k_ hk=>hk.2)) (fun _ hk=>⟨hk.1.1.1,⟨hk.1.1.2.1,⟨hk.1.2,⟨hk.1.1.2.2.1,⟨hk.1.1.2.2.2.1,⟨hk.1.1.2.2.2.2,hk.2⟩⟩⟩⟩⟩⟩)))⟩;have n2_:Aside0 (Kd.N k29 29 w127 w.heap.size (fun k_=>some k_ ≠ (.slice Zo t947.length Zn:Value).ownBlock∧some k_ ≠ (.slice Zs t954.length Zr:Value).ownBlock∧some k_ ≠ (.slice ZN t970.length ZO:Value).ownBlock∧k_ ≠ Zg∧k_ ≠ Zf∧k_ ≠ Zd∧k_ ≠ Ze) (.slice Zq t961.length Zp) t961):=⟨(by rw [hw];exact (Kd.N_mono (nFN (g:=Ze) Zc.out (fun k_ hk=>hk.2)) (fun _ hk=>⟨hk.1.1.1,⟨hk.1.1.2.1,⟨hk.1.2,⟨hk.1.1.2.2.1,⟨hk.1.1.2.2.2.1,⟨hk.1.1.2.2.2.2,hk.2⟩⟩⟩⟩⟩⟩)))⟩;have n3_:Aside0 (Kd.N k29 29 w127 w.heap.size (fun k_=>some k_ ≠ (.slice Zo t947.length Zn:Value).ownBlock∧some k_ ≠ (.slice Zs t954.length Zr:Value).ownBlock∧some k_ ≠ (.slice Zq t961.length Zp:Value).ownBlock∧k_ ≠ Zg∧k_ ≠ Zf∧k_ ≠ Zd∧k_ ≠ Ze) (.slice ZN t970.length ZO) t970):=⟨(by rw [hw];exact (Kd.N_mono (nFN (g:=Ze) Zl.out (fun k_ hk=>hk.2)) (fun _ hk=>⟨hk.1.1,⟨hk.1.2.1,⟨hk.1.2.2.1,⟨hk.1.2.2.2.1,⟨hk.1.2.2.2.2.1,⟨hk.1.2.2.2.2.2,hk.2⟩⟩⟩⟩⟩⟩)))⟩;have n4_:Aside0 (w127.heap[Zg]? = some (.cells #[.int .i64 t945,.int .i64 t946,.slice Zo t947.length Zn] 29 (0,0))):=⟨(by rw [hw];exact bF)⟩;have n5_:Aside0 (w127.heap[Zf]? = some (.cells #[.int .i64 t952,.int .i64 t953,.slice Zs t954.length Zr] 29 (0,0))):=⟨(by rw [hw];exact bF)⟩;have n6_:Aside0 (w127.heap[Zd]? = some (.cells #[.int .i64 t959,.int .i64 t960,.slice Zq t961.length Zp] 29 (0,0))):=⟨(by rw [hw];exact bF)⟩;have n7_:Aside0 (w127.heap[Ze]? = some (.cells #[.int .i64 t968,.int .i64 t969,.slice ZN t970.length ZO] 29 (0,0))):=⟨(by rw [hw];exact bP)⟩;have n8_:Aside0 (Below w.heap.size w w127):=⟨(by rw [hw];exact bB)⟩;clear hw;clear Za;clear Zb;clear Zc;clear Zl;clear Zh;clear Zi;clear Zk;clear Zm;clear HB;have Za:=n0_;have Zb:=n1_;have Zc:=n2_;have Zl:=n3_;have Zh:=n4_;have Zi:=n5_;have Zk:=n6_;have Zm:=n7_;have HB:=n8_;clear n0_ n1_ n2_ n3_ n4_ n5_ n6_ n7_ n8_;obtain ⟨XY,XZ,Wa,Wb,Wc,Wd⟩:=cz3 Zm.out) | ((with_reducible refine gate_callee (f:=25) rfl ?_);refine goesL_ (some 68) rfl rfl Try.func25 (by kernel_rfl) rfl #[.agg #[.int .i64 t968,.int .i64 t969,.slice ZN t970.length ZO]] rfl mP ?_;(with_reducible refine (impl_ClockPass.calls kj37 t968 t969 (fun k_=>(some k_ ≠ (.slice Zo t947.length Zn:Value).ownBlock∧(some k_ ≠ (.slice Zs t954.length Zr:Value).ownBlock∧(some k_ ≠ (.slice Zq t961.length Zp:Value).ownBlock∧(k_ ≠ Zg∧(k_ ≠ Zf∧(k_ ≠ Zd∧k_ ≠ Ze))))))) _ _ t970 t975 t976 t977 false _ ?Zu A50.out).mono ?_);(case Zu=>exact Kd.N_V (Zl.out));rintro e w129 ⟨v978,rfl,ho0,hb⟩;refine ⟨_,rfl,?_⟩;replace Zl:=aQ (Kd.N_elder' (nN Zl.out) (Kd.N_base ho0) hb);have Zt:=aQ (Kd.N_lower (Kd.N_mono (ok':=fun k_=>some k_ ≠ (.slice Zo t947.length Zn:Value).ownBlock∧some k_ ≠ (.slice Zs t954.length Zr:Value).ownBlock∧some k_ ≠ (.slice Zq t961.length Zp:Value).ownBlock∧k_ ≠ Zg∧k_ ≠ Zf∧k_ ≠ Zd∧k_ ≠ Ze) ho0 (fun k_ hk_=>⟨Or.elim hk_ (fun hs_=>hs_.1) (fun hn_=>(Kd.fresh' (Kd.N_lt (nN Za.out)) k_ hn_)),Or.elim hk_ (fun hs_=>hs_.2.1) (fun hn_=>(Kd.fresh' (Kd.N_lt (nN Zb.out)) k_ hn_)),Or.elim hk_ (fun hs_=>hs_.2.2.1) (fun hn_=>(Kd.fresh' (Kd.N_lt (nN Zc.out)) k_ hn_)),Or.elim hk_ (fun hs_=>hs_.2.2.2.1) (fun hn_=>(Kd.freshB (nB Zh.out) k_ hn_)),Or.elim hk_ (fun hs_=>hs_.2.2.2.2.1) (fun hn_=>(Kd.freshB (nB Zi.out) k_ hn_)),Or.elim hk_ (fun hs_=>hs_.2.2.2.2.2.1) (fun hn_=>(Kd.freshB (nB Zk.out) k_ hn_)),Or.elim hk_ (fun hs_=>hs_.2.2.2.2.2.2) (fun hn_=>(Kd.freshB (nB Zm.out) k_ hn_))⟩)) (below_size bB));replace Za:=aQ (Kd.N_elder' (nN Za.out) (Kd.N_base ho0) hb);replace Zb:=aQ (Kd.N_elder' (nN Zb.out) (Kd.N_base ho0) hb);replace Zc:=aQ (Kd.N_elder' (nN Zc.out) (Kd.N_base ho0) hb);replace Zh:=aQ (blk_below (nB Zh.out) hb);replace Zi:=aQ (blk_below (nB Zi.out) hb);replace Zk:=aQ (blk_below (nB Zk.out) hb);replace Zm:=aQ (blk_below (nB Zm.out) hb);replace HB:=aQ (below_step bB hb);(try clear hb);(try clear ho0)) | ((with_reducible refine gate_dst (N:=11) rfl ?_);(try (refine gate_guard (by rfl) ?_;dsimp only));refine box1 (N:=11) (cs:=#[.int .i64 0,.int .i64 0,.slice none 0 0]) (t:=29) ?_;intro Zj hg w130 hbox hb;replace Za:=aQ (Kd.N_below (Kd.N_elderB (nN Za.out) Zj (Nat.le_of_eq hg.symm)) hb);replace Zb:=aQ (Kd.N_below (Kd.N_elderB (nN Zb.out) Zj (Nat.le_of_eq hg.symm)) hb);replace Zc:=aQ (Kd.N_below (Kd.N_elderB (nN Zc.out) Zj (Nat.le_of_eq hg.symm)) hb);replace Zl:=aQ (Kd.N_below (Kd.N_elderB (nN Zl.out) Zj (Nat.le_of_eq hg.symm)) hb);replace Zt:=aQ (Kd.N_below (Kd.N_elderB (nN Zt.out) Zj (Nat.le_of_eq hg.symm)) hb);have Zv:=aQ (hbox);have Yp:=aQ (gB:w.heap.size ≤ Zj);have Yr:=Yp;replace HB:=aQ (below_step bB hb);have ZB:=aQ ((by rw [hg];exact Nat.ne_of_lt (blk_lt (nB Zh.out)):Zg ≠ Zj));have ZU:=aQ ZB.out.symm;replace Zh:=aQ (blk_below (nB Zh.out) hb);have ZC:=aQ ((by rw [hg];exact Nat.ne_of_lt (blk_lt (nB Zi.out)):Zf ≠ Zj));have ZV:=aQ ZC.out.symm;replace Zi:=aQ (blk_below (nB Zi.out) hb);have ZD:=aQ ((by rw [hg];exact Nat.ne_of_lt (blk_lt (nB Zk.out)):Zd ≠ Zj));have ZW:=aQ ZD.out.symm;replace Zk:=aQ (blk_below (nB Zk.out) hb);have ZE:=aQ ((by rw [hg];exact Nat.ne_of_lt (blk_lt (nB Zm.out)):Ze ≠ Zj));have ZX:=aQ ZE.out.symm;replace Zm:=aQ (blk_below (nB Zm.out) hb);clear hb hbox hg;have TA:=ZU.out;have TB:=ZB.out;have TC:=ZV.out;have TD:=ZC.out;have TE:=ZW.out;have TF:=ZD.out;have TG:=ZX.out;have TH:=ZE.out;obtain ⟨We,Wf,Wg,Wh,Wi,Wj⟩:=cz3 Zv.out;obtain ⟨Yf,Yg,YX⟩:=Kd.N_slice Zt.out;subst YX) | ((with_reducible refine gate_store (t:=29) (p:=11) rfl ?_);refine store_event (t:=29) (p:=11) (v:=?vo_w137) (w1:=(((w130.setCell ⟨Zj,0,none⟩ (.int .i64 t975)).setCell ⟨Zj,1,none⟩ (.int .i64 t976)).setCell ⟨Zj,2,none⟩ (.slice Yf t977.length Yg))) ?hg ?ho ?hn ?hr ?_;(case ho=>rfl);(case hg=>rfl);(case hn=>rfl);(case hr=>first | (go_simp;done) | (go_simp;rfl));intro w137 hw;have n0_:Aside0 (Kd.N k29 29 w137 w.heap.size (fun k_=>some k_ ≠ (.slice Zs t954.length Zr:Value).ownBlock∧some k_ ≠ (.slice Zq t961.length Zp:Value).ownBlock∧some k_ ≠ (.slice ZN t970.length ZO:Value).ownBlock∧some k_ ≠ (.slice Yf t977.length Yg:Value).ownBlock∧k_ ≠ Zg∧k_ ≠ Zf∧k_ ≠ Zd∧k_ ≠ Ze∧k_ ≠ Zj) (.slice Zo t947.length Zn) t947):=⟨(by rw [hw];exact (Kd.N_mono (nFN (g:=Zj) Za.out (fun k_ hk=>hk.2)) (fun _ hk=>⟨hk.1.1.1,⟨hk.1.1.2.1,⟨hk.1.1.2.2.1,⟨hk.1.2,⟨hk.1.1.2.2.2.1,⟨hk.1.1.2.2.2.2.1,⟨hk.1.1.2.2.2.2.2.1,⟨hk.1.1.2.2.2.2.2.2,hk.2⟩⟩⟩⟩⟩⟩⟩⟩)))⟩;have n1_:Aside0 (Kd.N k29 29 w137 w.heap.size (fun k_=>some k_ ≠ (.slice Zo t947.length Zn:Value).ownBlock∧some k_ ≠ (.slice Zq t961.length Zp:Value).ownBlock∧some k_ ≠ (.slice ZN t970.length ZO:Value).ownBlock∧some k_ ≠ (.slice Yf t977.length Yg:Value).ownBlock∧k_ ≠ Zg∧k_ ≠ Zf∧k_ ≠ Zd∧k_ ≠ Ze∧k_ ≠ Zj) (.slice Zs t954.length Zr) t954):=⟨(by rw [hw];exact (Kd.N_mono (nFN (g:=Zj) Zb.out (fun k_ hk=>hk.2)) (fun _ hk=>⟨hk.1.1.1,⟨hk.1.1.2.1,⟨hk.1.1.2.2.1,⟨hk.1.2,⟨hk.1.1.2.2.2.1,⟨hk.1.1.2.2.2.2.1,⟨hk.1.1.2.2.2.2.2.1,⟨hk.1.1.2.2.2.2.2.2,hk.2⟩⟩⟩⟩⟩⟩⟩⟩)))⟩;have n2_:Aside0 (Kd.N k29 29 w137 w.heap.size (fun k_=>some k_ ≠ (.slice Zo t947.length Zn:Value).ownBlock∧some k_ ≠ (.slice Zs t954.length Zr:Value).ownBlock∧some k_ ≠ (.slice ZN t970.length ZO:Value).ownBlock∧some k_ ≠ (.slice Yf t977.length Yg:Value).ownBlock∧k_ ≠ Zg∧k_ ≠ Zf∧k_ ≠ Zd∧k_ ≠ Ze∧k_ ≠ Zj) (.slice Zq t961.length Zp) t961):=⟨(by rw [hw];exact (Kd.N_mono (nFN (g:=Zj) Zc.out (fun k_ hk=>hk.2)) (fun _ hk=>⟨hk.1.1.1,⟨hk.1.1.2.1,⟨hk.1.1.2.2.1,⟨hk.1.2,⟨hk.1.1.2.2.2.1,⟨hk.1.1.2.2.2.2.1,⟨hk.1.1.2.2.2.2.2.1,⟨hk.1.1.2.2.2.2.2.2,hk.2⟩⟩⟩⟩⟩⟩⟩⟩)))⟩;have n3_:Aside0 (Kd.N k29 29 w137 w.heap.size (fun k_=>some k_ ≠ (.slice Zo t947.length Zn:Value).ownBlock∧some k_ ≠ (.slice Zs t954.length Zr:Value).ownBlock∧some k_ ≠ (.slice Zq t961.length Zp:Value).ownBlock∧some k_ ≠ (.slice Yf t977.length Yg:Value).ownBlock∧k_ ≠ Zg∧k_ ≠ Zf∧k_ ≠ Zd∧k_ ≠ Ze∧k_ ≠ Zj) (.slice ZN t970.length ZO) t970):=⟨(by rw [hw];exact (Kd.N_mono (nFN (g:=Zj) Zl.out (fun k_ hk=>hk.2)) (fun _ hk=>⟨hk.1.1.1,⟨hk.1.1.2.1,⟨hk.1.1.2.2.1,⟨hk.1.2,⟨hk.1.1.2.2.2.1,⟨hk.1.1.2.2.2.2.1,⟨hk.1.1.2.2.2.2.2.1,⟨hk.1.1.2.2.2.2.2.2,hk.2⟩⟩⟩⟩⟩⟩⟩⟩)))⟩;have n4_:Aside0 (Kd.N k29 29 w137 w.heap.size (fun k_=>some k_ ≠ (.slice Zo t947.length Zn:Value).ownBlock∧some k_ ≠ (.slice Zs t954.length Zr:Value).ownBlock∧some k_ ≠ (.slice Zq t961.length Zp:Value).ownBlock∧k_ ≠ Zg∧k_ ≠ Zf∧k_ ≠ Zd∧k_ ≠ Ze∧k_ ≠ Zj) (.slice Yf t977.length Yg) t977):=⟨(by rw [hw];exact (Kd.N_mono (nFN (g:=Zj) Zt.out (fun k_ hk=>hk.2)) (fun _ hk=>⟨hk.1.1,⟨hk.1.2.1,⟨hk.1.2.2.1,⟨hk.1.2.2.2.1,⟨hk.1.2.2.2.2.1,⟨hk.1.2.2.2.2.2.1,⟨hk.1.2.2.2.2.2.2,hk.2⟩⟩⟩⟩⟩⟩⟩)))⟩;have n5_:Aside0 (w137.heap[Zg]? = some (.cells #[.int .i64 t945,.int .i64 t946,.slice Zo t947.length Zn] 29 (0,0))):=⟨(by rw [hw];exact bF)⟩;have n6_:Aside0 (w137.heap[Zf]? = some (.cells #[.int .i64 t952,.int .i64 t953,.slice Zs t954.length Zr] 29 (0,0))):=⟨(by rw [hw];exact bF)⟩;have n7_:Aside0 (w137.heap[Zd]? = some (.cells #[.int .i64 t959,.int .i64 t960,.slice Zq t961.length Zp] 29 (0,0))):=⟨(by rw [hw];exact bF)⟩;have n8_:Aside0 (w137.heap[Ze]? = some (.cells #[.int .i64 t968,.int .i64 t969,.slice ZN t970.length ZO] 29 (0,0))):=⟨(by rw [hw];exact bF)⟩;have n9_:Aside0 (w137.heap[Zj]? = some (.cells #[.int .i64 t975,.int .i64 t976,.slice Yf t977.length Yg] 29 (0,0))):=⟨(by rw [hw];exact bP)⟩;have n10_:Aside0 (Below w.heap.size w w137):=⟨(by rw [hw];exact bB)⟩;clear hw;clear Za;clear Zb;clear Zc;clear Zl;clear Zt;clear Zh;clear Zi;clear Zk;clear Zm;clear Zv;clear HB;have Za:=n0_;have Zb:=n1_;have Zc:=n2_;have Zl:=n3_;have Zt:=n4_;have Zh:=n5_;have Zi:=n6_;have Zk:=n7_;have Zm:=n8_;have Zv:=n9_;have HB:=n10_;clear n0_ n1_ n2_ n3_ n4_ n5_ n6_ n7_ n8_ n9_ n10_;obtain ⟨Wk,Wl,Wm,Wn,Wo,Wp⟩:=cz3 Zm.out) | ((with_reducible refine gate_callee (f:=19) rfl ?_);refine goesL_ (some 73) rfl rfl Try.func19 (by kernel_rfl) rfl #[.agg #[.int .i64 t968,.int .i64 t969,.slice ZN t970.length ZO]] rfl mP ?_;(with_reducible refine (impl_ClockSteps.calls kj37 t968 t969 (fun k_=>(some k_ ≠ (.slice Zo t947.length Zn:Value).ownBlock∧(some k_ ≠ (.slice Zs t954.length Zr:Value).ownBlock∧(some k_ ≠ (.slice Zq t961.length Zp:Value).ownBlock∧(some k_ ≠ (.slice Yf t977.length Yg:Value).ownBlock∧(k_ ≠ Zg∧(k_ ≠ Zf∧(k_ ≠ Zd∧(k_ ≠ Ze∧k_ ≠ Zj))))))))) _ _ t970 t982 t985 _ ?Zu A51.out).mono ?_);(case Zu=>exact Kd.N_V (Zl.out));rintro e w139 ⟨v983,rfl,ho0,hb⟩;refine ⟨_,rfl,?_⟩;replace Zl:=aQ (Kd.N_elder' (nN Zl.out) (Kd.N_base ho0) hb);have ZF:=aQ (Kd.N_lower (Kd.N_mono (ok':=fun k_=>some k_ ≠ (.slice Zo t947.length Zn:Value).ownBlock∧some k_ ≠ (.slice Zs t954.length Zr:Value).ownBlock∧some k_ ≠ (.slice Zq t961.length Zp:Value).ownBlock∧some k_ ≠ (.slice Yf t977.length Yg:Value).ownBlock∧k_ ≠ Zg∧k_ ≠ Zf∧k_ ≠ Zd∧k_ ≠ Ze∧k_ ≠ Zj) ho0 (fun k_ hk_=>⟨Or.elim hk_ (fun hs_=>hs_.1) (fun hn_=>(Kd.fresh' (Kd.N_lt (nN Za.out)) k_ hn_)),Or.elim hk_ (fun hs_=>hs_.2.1) (fun hn_=>(Kd.fresh' (Kd.N_lt (nN Zb.out)) k_ hn_)),Or.elim hk_ (fun hs_=>hs_.2.2.1) (fun hn_=>(Kd.fresh' (Kd.N_lt (nN Zc.out)) k_ hn_)),Or.elim hk_ (fun hs_=>hs_.2.2.2.1) (fun hn_=>(Kd.fresh' (Kd.N_lt (nN Zt.out)) k_ hn_)),Or.elim hk_ (fun hs_=>hs_.2.2.2.2.1) (fun hn_=>(Kd.freshB (nB Zh.out) k_ hn_)),Or.elim hk_ (fun hs_=>hs_.2.2.2.2.2.1) (fun hn_=>(Kd.freshB (nB Zi.out) k_ hn_)),Or.elim hk_ (fun hs_=>hs_.2.2.2.2.2.2.1) (fun hn_=>(Kd.freshB (nB Zk.out) k_ hn_)),Or.elim hk_ (fun hs_=>hs_.2.2.2.2.2.2.2.1) (fun hn_=>(Kd.freshB (nB Zm.out) k_ hn_)),Or.elim hk_ (fun hs_=>hs_.2.2.2.2.2.2.2.2) (fun hn_=>(Kd.freshB (nB Zv.out) k_ hn_))⟩)) (below_size bB));replace Za:=aQ (Kd.N_elder' (nN Za.out) (Kd.N_base ho0) hb);replace Zb:=aQ (Kd.N_elder' (nN Zb.out) (Kd.N_base ho0) hb);replace Zc:=aQ (Kd.N_elder' (nN Zc.out) (Kd.N_base ho0) hb);replace Zt:=aQ (Kd.N_elder' (nN Zt.out) (Kd.N_base ho0) hb);replace Zh:=aQ (blk_below (nB Zh.out) hb);replace Zi:=aQ (blk_below (nB Zi.out) hb);replace Zk:=aQ (blk_below (nB Zk.out) hb);replace Zm:=aQ (blk_below (nB Zm.out) hb);replace Zv:=aQ (blk_below (nB Zv.out) hb);replace HB:=aQ (below_step bB hb);(try clear hb);(try clear ho0);have TI:=ZJ.out;have TJ:=ZM.out;obtain ⟨Wq,Wr,Ws,Wt,Wu,Wv⟩:=cz3 Zi.out) | ((with_reducible refine gate_callee (f:=19) rfl ?_);refine goesL_ (some 78) rfl rfl Try.func19 (by kernel_rfl) rfl #[.agg #[.int .i64 t952,.int .i64 t953,.slice Zs t954.length Zr]] rfl mP ?_;(with_reducible refine (impl_ClockSteps.calls kj37 t952 t953 (fun k_=>((some k_ ≠ (.slice Zo t947.length Zn:Value).ownBlock∧(some k_ ≠ (.slice Zq t961.length Zp:Value).ownBlock∧(some k_ ≠ (.slice ZN t970.length ZO:Value).ownBlock∧(some k_ ≠ (.slice Yf t977.length Yg:Value).ownBlock∧(k_ ≠ Zg∧(k_ ≠ Zf∧(k_ ≠ Zd∧(k_ ≠ Ze∧k_ ≠ Zj))))))))∧some k_ ≠ (v983:Value).ownBlock)) _ _ t954 t986 t989 _ ?Zu A52.out).mono ?_);(case Zu=>exact Kd.N_V (Zb.out));rintro e w142 ⟨v987,rfl,ho0,hb⟩;refine ⟨_,rfl,?_⟩;replace Zb:=aQ (Kd.N_elder' (nN Zb.out) (Kd.N_base ho0) hb);have Yn:=aQ (Kd.N_lower (Kd.N_mono (ok':=fun k_=>some k_ ≠ (.slice Zo t947.length Zn:Value).ownBlock∧some k_ ≠ (.slice Zq t961.length Zp:Value).ownBlock∧some k_ ≠ (.slice ZN t970.length ZO:Value).ownBlock∧some k_ ≠ (.slice Yf t977.length Yg:Value).ownBlock∧some k_ ≠ (v983:Value).ownBlock∧k_ ≠ Zg∧k_ ≠ Zf∧k_ ≠ Zd∧k_ ≠ Ze∧k_ ≠ Zj) ho0 (fun k_ hk_=>⟨Or.elim hk_ (fun hs_=>hs_.1.1) (fun hn_=>(Kd.fresh' (Kd.N_lt (nN Za.out)) k_ hn_)),Or.elim hk_ (fun hs_=>hs_.1.2.1) (fun hn_=>(Kd.fresh' (Kd.N_lt (nN Zc.out)) k_ hn_)),Or.elim hk_ (fun hs_=>hs_.1.2.2.1) (fun hn_=>(Kd.fresh' (Kd.N_lt (nN Zl.out)) k_ hn_)),Or.elim hk_ (fun hs_=>hs_.1.2.2.2.1) (fun hn_=>(Kd.fresh' (Kd.N_lt (nN Zt.out)) k_ hn_)),Or.elim hk_ (fun hs_=>hs_.2) (fun hn_=>(Kd.fresh' (Kd.N_lt (nN ZF.out)) k_ hn_)),Or.elim hk_ (fun hs_=>hs_.1.2.2.2.2.1) (fun hn_=>(Kd.freshB (nB Zh.out) k_ hn_)),Or.elim hk_ (fun hs_=>hs_.1.2.2.2.2.2.1) (fun hn_=>(Kd.freshB (nB Zi.out) k_ hn_)),Or.elim hk_ (fun hs_=>hs_.1.2.2.2.2.2.2.1) (fun hn_=>(Kd.freshB (nB Zk.out) k_ hn_)),Or.elim hk_ (fun hs_=>hs_.1.2.2.2.2.2.2.2.1) (fun hn_=>(Kd.freshB (nB Zm.out) k_ hn_)),Or.elim hk_ (fun hs_=>hs_.1.2.2.2.2.2.2.2.2) (fun hn_=>(Kd.freshB (nB Zv.out) k_ hn_))⟩)) (below_size bB));replace Za:=aQ (Kd.N_elder' (nN Za.out) (Kd.N_base ho0) hb);replace Zc:=aQ (Kd.N_elder' (nN Zc.out) (Kd.N_base ho0) hb);replace Zl:=aQ (Kd.N_elder' (nN Zl.out) (Kd.N_base ho0) hb);replace Zt:=aQ (Kd.N_elder' (nN Zt.out) (Kd.N_base ho0) hb);replace ZF:=aQ (Kd.N_elder' (nN ZF.out) (Kd.N_base ho0) hb);replace Zh:=aQ (blk_below (nB Zh.out) hb);replace Zi:=aQ (blk_below (nB Zi.out) hb);replace Zk:=aQ (blk_below (nB Zk.out) hb);replace Zm:=aQ (blk_below (nB Zm.out) hb);replace Zv:=aQ (blk_below (nB Zv.out) hb);replace HB:=aQ (below_step bB hb);(try clear hb);(try clear ho0)))
         go_ret
         exact ⟨rfl,bB⟩
       ·replace c53:=Bool.eq_false_iff.mpr c53
        subst c53
        have H1:(some false) = some r:=by rw [if_neg (show ¬ (false = true) by decide)] at H;exact H
        clear H
        have H:=H1
        clear H1
        obtain rfl:=Option.some.inj H
        have TK:=ZH.out
        have TL:=ZK.out
        have TM:=ZI.out
        have TN:=ZL.out
        obtain ⟨Ww,Wx,Wy,Wz,WA,WB⟩:=cz3 Zh.out
        go_wp2_with (first | ((with_reducible refine gate_callee (f:=34) rfl ?_);refine goesL_ (some 63) rfl rfl Try.func34 (by kernel_rfl) rfl #[.agg #[.int .i64 t945,.int .i64 t946,.slice Zo t947.length Zn],.int .i64 (wrap64 (t950 - 1))] rfl mP ?_;(with_reducible refine (impl_ClockLater.calls kj37 t945 t946 _ _ t947 (wrap64 (t950 - 1)) t968 t969 t970 false _ ?Zu ?Zw A49.out).mono ?_);(case Zu=>repeat (first | exact (Kd.N_reads' Za.out).2.2 | (with_reducible refine Kd.C_alloc ?_ _) | (with_reducible refine Kd.C_drewN ?_ _) | (with_reducible refine Kd.C_drew ?_)));(case Zw=>exact (Kd.N_reads' Za.out).2.1);rintro e w146 ⟨v971,rfl,ho0,hb⟩;refine ⟨_,rfl,?_⟩;have Zl:=aQ (Kd.N_lower (Kd.N_mono (ok':=fun k_=>some k_ ≠ (.slice Zo t947.length Zn:Value).ownBlock∧some k_ ≠ (.slice Zs t954.length Zr:Value).ownBlock∧some k_ ≠ (.slice Zq t961.length Zp:Value).ownBlock∧k_ ≠ Zg∧k_ ≠ Zf∧k_ ≠ Zd) ho0 (fun k_ hk_=>⟨(Kd.fresh' (Kd.N_lt (nN Za.out)) k_ hk_),(Kd.fresh' (Kd.N_lt (nN Zb.out)) k_ hk_),(Kd.fresh' (Kd.N_lt (nN Zc.out)) k_ hk_),(Kd.freshB (nB Zh.out) k_ hk_),(Kd.freshB (nB Zi.out) k_ hk_),(Kd.freshB (nB Zk.out) k_ hk_)⟩)) (below_size bB));replace Za:=aQ (Kd.N_elder' (nN Za.out) (Kd.N_base ho0) hb);replace Zb:=aQ (Kd.N_elder' (nN Zb.out) (Kd.N_base ho0) hb);replace Zc:=aQ (Kd.N_elder' (nN Zc.out) (Kd.N_base ho0) hb);replace Zh:=aQ (blk_below (nB Zh.out) hb);replace Zi:=aQ (blk_below (nB Zi.out) hb);replace Zk:=aQ (blk_below (nB Zk.out) hb);replace HB:=aQ (below_step bB hb);(try clear hb);(try clear ho0)) | ((with_reducible refine gate_dst (N:=9) rfl ?_);(try (refine gate_guard (by rfl) ?_;dsimp only));refine box1 (N:=9) (cs:=#[.int .i64 0,.int .i64 0,.slice none 0 0]) (t:=29) ?_;intro Ze hg w147 hbox hb;replace Za:=aQ (Kd.N_below (Kd.N_elderB (nN Za.out) Ze (Nat.le_of_eq hg.symm)) hb);replace Zb:=aQ (Kd.N_below (Kd.N_elderB (nN Zb.out) Ze (Nat.le_of_eq hg.symm)) hb);replace Zc:=aQ (Kd.N_below (Kd.N_elderB (nN Zc.out) Ze (Nat.le_of_eq hg.symm)) hb);replace Zl:=aQ (Kd.N_below (Kd.N_elderB (nN Zl.out) Ze (Nat.le_of_eq hg.symm)) hb);have Zm:=aQ (hbox);have Yo:=aQ (gB:w.heap.size ≤ Ze);have Yq:=Yo;replace HB:=aQ (below_step bB hb);have Zy:=aQ ((by rw [hg];exact Nat.ne_of_lt (blk_lt (nB Zh.out)):Zg ≠ Ze));have ZR:=aQ Zy.out.symm;replace Zh:=aQ (blk_below (nB Zh.out) hb);have Zz:=aQ ((by rw [hg];exact Nat.ne_of_lt (blk_lt (nB Zi.out)):Zf ≠ Ze));have ZS:=aQ Zz.out.symm;replace Zi:=aQ (blk_below (nB Zi.out) hb);have ZA:=aQ ((by rw [hg];exact Nat.ne_of_lt (blk_lt (nB Zk.out)):Zd ≠ Ze));have ZT:=aQ ZA.out.symm;replace Zk:=aQ (blk_below (nB Zk.out) hb);clear hb hbox hg;have TO:=ZR.out;have TP:=Zy.out;have TQ:=ZS.out;have TR:=Zz.out;have TS:=ZT.out;have TT:=ZA.out;obtain ⟨WC,WD,WE,WF,WG,WH⟩:=cz3 Zm.out;obtain ⟨ZP,ZQ,YY⟩:=Kd.N_slice Zl.out;subst YY) | ((with_reducible refine gate_store (t:=29) (p:=9) rfl ?_);refine store_event (t:=29) (p:=9) (v:=?vo_w153) (w1:=(((w147.setCell ⟨Ze,0,none⟩ (.int .i64 t968)).setCell ⟨Ze,1,none⟩ (.int .i64 t969)).setCell ⟨Ze,2,none⟩ (.slice ZP t970.length ZQ))) ?hg ?ho ?hn ?hr ?_;(case ho=>rfl);(case hg=>rfl);(case hn=>rfl);(case hr=>first | (go_simp;done) | (go_simp;rfl));intro w153 hw;have n0_:Aside0 (Kd.N k29 29 w153 w.heap.size (fun k_=>some k_ ≠ (.slice Zs t954.length Zr:Value).ownBlock∧some k_ ≠ (.slice Zq t961.length Zp:Value).ownBlock∧some k_ ≠ (.slice ZP t970.length ZQ:Value).ownBlock∧k_ ≠ Zg∧k_ ≠ Zf∧k_ ≠ Zd∧k_ ≠ Ze) (.slice Zo t947.length Zn) t947):=⟨(by rw [hw];exact (Kd.N_mono (nFN (g:=Ze) Za.out (fun k_ hk=>hk.2)) (fun _ hk=>⟨hk.1.1.1,⟨hk.1.1.2.1,⟨hk.1.2,⟨hk.1.1.2.2.1,⟨hk.1.1.2.2.2.1,⟨hk.1.1.2.2.2.2,hk.2⟩⟩⟩⟩⟩⟩)))⟩;have n1_:Aside0 (Kd.N k29 29 w153 w.heap.size (fun k_=>some k_ ≠ (.slice Zo t947.length Zn:Value).ownBlock∧some k_ ≠ (.slice Zq t961.length Zp:Value).ownBlock∧some k_ ≠ (.slice ZP t970.length ZQ:Value).ownBlock∧k_ ≠ Zg∧k_ ≠ Zf∧k_ ≠ Zd∧k_ ≠ Ze) (.slice Zs t954.length Zr) t954):=⟨(by rw [hw];exact (Kd.N_mono (nFN (g:=Ze) Zb.out (fun k_ hk=>hk.2)) (fun _ hk=>⟨hk.1.1.1,⟨hk.1.1.2.1,⟨hk.1.2,⟨hk.1.1.2.2.1,⟨hk.1.1.2.2.2.1,⟨hk.1.1.2.2.2.2,hk.2⟩⟩⟩⟩⟩⟩)))⟩;have n2_:Aside0 (Kd.N k29 29 w153 w.heap.size (fun k_=>some k_ ≠ (.slice Zo t947.length Zn:Value).ownBlock∧some k_ ≠ (.slice Zs t954.length Zr:Value).ownBlock∧some k_ ≠ (.slice ZP t970.length ZQ:Value).ownBlock∧k_ ≠ Zg∧k_ ≠ Zf∧k_ ≠ Zd∧k_ ≠ Ze) (.slice Zq t961.length Zp) t961):=⟨(by rw [hw];exact (Kd.N_mono (nFN (g:=Ze) Zc.out (fun k_ hk=>hk.2)) (fun _ hk=>⟨hk.1.1.1,⟨hk.1.1.2.1,⟨hk.1.2,⟨hk.1.1.2.2.1,⟨hk.1.1.2.2.2.1,⟨hk.1.1.2.2.2.2,hk.2⟩⟩⟩⟩⟩⟩)))⟩;have n3_:Aside0 (Kd.N k29 29 w153 w.heap.size (fun k_=>some k_ ≠ (.slice Zo t947.length Zn:Value).ownBlock∧some k_ ≠ (.slice Zs t954.length Zr:Value).ownBlock∧some k_ ≠ (.slice Zq t961.length Zp:Value).ownBlock∧k_ ≠ Zg∧k_ ≠ Zf∧k_ ≠ Zd∧k_ ≠ Ze) (.slice ZP t970.length ZQ) t970):=⟨(by rw [hw];exact (Kd.N_mono (nFN (g:=Ze) Zl.out (fun k_ hk=>hk.2)) (fun _ hk=>⟨hk.1.1,⟨hk.1.2.1,⟨hk.1.2.2.1,⟨hk.1.2.2.2.1,⟨hk.1.2.2.2.2.1,⟨hk.1.2.2.2.2.2,hk.2⟩⟩⟩⟩⟩⟩)))⟩;have n4_:Aside0 (w153.heap[Zg]? = some (.cells #[.int .i64 t945,.int .i64 t946,.slice Zo t947.length Zn] 29 (0,0))):=⟨(by rw [hw];exact bF)⟩;have n5_:Aside0 (w153.heap[Zf]? = some (.cells #[.int .i64 t952,.int .i64 t953,.slice Zs t954.length Zr] 29 (0,0))):=⟨(by rw [hw];exact bF)⟩;have n6_:Aside0 (w153.heap[Zd]? = some (.cells #[.int .i64 t959,.int .i64 t960,.slice Zq t961.length Zp] 29 (0,0))):=⟨(by rw [hw];exact bF)⟩;have n7_:Aside0 (w153.heap[Ze]? = some (.cells #[.int .i64 t968,.int .i64 t969,.slice ZP t970.length ZQ] 29 (0,0))):=⟨(by rw [hw];exact bP)⟩;have n8_:Aside0 (Below w.heap.size w w153):=⟨(by rw [hw];exact bB)⟩;clear hw;clear Za;clear Zb;clear Zc;clear Zl;clear Zh;clear Zi;clear Zk;clear Zm;clear HB;have Za:=n0_;have Zb:=n1_;have Zc:=n2_;have Zl:=n3_;have Zh:=n4_;have Zi:=n5_;have Zk:=n6_;have Zm:=n7_;have HB:=n8_;clear n0_ n1_ n2_ n3_ n4_ n5_ n6_ n7_ n8_;obtain ⟨WI,WJ,WK,WL,WM,WN⟩:=cz3 Zm.out) | ((with_reducible refine gate_callee (f:=25) rfl ?_);refine goesL_ (some 68) rfl rfl Try.func25 (by kernel_rfl) rfl #[.agg #[.int .i64 t968,.int .i64 t969,.slice ZP t970.length ZQ]] rfl mP ?_;(with_reducible refine (impl_ClockPass.calls kj37 t968 t969 (fun k_=>(some k_ ≠ (.slice Zo t947.length Zn:Value).ownBlock∧(some k_ ≠ (.slice Zs t954.length Zr:Value).ownBlock∧(some k_ ≠ (.slice Zq t961.length Zp:Value).ownBlock∧(k_ ≠ Zg∧(k_ ≠ Zf∧(k_ ≠ Zd∧k_ ≠ Ze))))))) _ _ t970 t975 t976 t977 t980 _ ?Zu A50.out).mono ?_);(case Zu=>exact Kd.N_V (Zl.out));rintro e w155 ⟨v978,rfl,ho0,hb⟩;refine ⟨_,rfl,?_⟩;replace Zl:=aQ (Kd.N_elder' (nN Zl.out) (Kd.N_base ho0) hb);have Zt:=aQ (Kd.N_lower (Kd.N_mono (ok':=fun k_=>some k_ ≠ (.slice Zo t947.length Zn:Value).ownBlock∧some k_ ≠ (.slice Zs t954.length Zr:Value).ownBlock∧some k_ ≠ (.slice Zq t961.length Zp:Value).ownBlock∧k_ ≠ Zg∧k_ ≠ Zf∧k_ ≠ Zd∧k_ ≠ Ze) ho0 (fun k_ hk_=>⟨Or.elim hk_ (fun hs_=>hs_.1) (fun hn_=>(Kd.fresh' (Kd.N_lt (nN Za.out)) k_ hn_)),Or.elim hk_ (fun hs_=>hs_.2.1) (fun hn_=>(Kd.fresh' (Kd.N_lt (nN Zb.out)) k_ hn_)),Or.elim hk_ (fun hs_=>hs_.2.2.1) (fun hn_=>(Kd.fresh' (Kd.N_lt (nN Zc.out)) k_ hn_)),Or.elim hk_ (fun hs_=>hs_.2.2.2.1) (fun hn_=>(Kd.freshB (nB Zh.out) k_ hn_)),Or.elim hk_ (fun hs_=>hs_.2.2.2.2.1) (fun hn_=>(Kd.freshB (nB Zi.out) k_ hn_)),Or.elim hk_ (fun hs_=>hs_.2.2.2.2.2.1) (fun hn_=>(Kd.freshB (nB Zk.out) k_ hn_)),Or.elim hk_ (fun hs_=>hs_.2.2.2.2.2.2) (fun hn_=>(Kd.freshB (nB Zm.out) k_ hn_))⟩)) (below_size bB));replace Za:=aQ (Kd.N_elder' (nN Za.out) (Kd.N_base ho0) hb);replace Zb:=aQ (Kd.N_elder' (nN Zb.out) (Kd.N_base ho0) hb);replace Zc:=aQ (Kd.N_elder' (nN Zc.out) (Kd.N_base ho0) hb);replace Zh:=aQ (blk_below (nB Zh.out) hb);replace Zi:=aQ (blk_below (nB Zi.out) hb);replace Zk:=aQ (blk_below (nB Zk.out) hb);replace Zm:=aQ (blk_below (nB Zm.out) hb);replace HB:=aQ (below_step bB hb);(try clear hb);(try clear ho0)) | ((with_reducible refine gate_dst (N:=11) rfl ?_);(try (refine gate_guard (by rfl) ?_;dsimp only));refine box1 (N:=11) (cs:=#[.int .i64 0,.int .i64 0,.slice none 0 0]) (t:=29) ?_;intro Zj hg w156 hbox hb;replace Za:=aQ (Kd.N_below (Kd.N_elderB (nN Za.out) Zj (Nat.le_of_eq hg.symm)) hb);replace Zb:=aQ (Kd.N_below (Kd.N_elderB (nN Zb.out) Zj (Nat.le_of_eq hg.symm)) hb);replace Zc:=aQ (Kd.N_below (Kd.N_elderB (nN Zc.out) Zj (Nat.le_of_eq hg.symm)) hb);replace Zl:=aQ (Kd.N_below (Kd.N_elderB (nN Zl.out) Zj (Nat.le_of_eq hg.symm)) hb);replace Zt:=aQ (Kd.N_below (Kd.N_elderB (nN Zt.out) Zj (Nat.le_of_eq hg.symm)) hb);have Zv:=aQ (hbox);have Yp:=aQ (gB:w.heap.size ≤ Zj);have Yr:=Yp;replace HB:=aQ (below_step bB hb);have ZB:=aQ ((by rw [hg];exact Nat.ne_of_lt (blk_lt (nB Zh.out)):Zg ≠ Zj));have ZU:=aQ ZB.out.symm;replace Zh:=aQ (blk_below (nB Zh.out) hb);have ZC:=aQ ((by rw [hg];exact Nat.ne_of_lt (blk_lt (nB Zi.out)):Zf ≠ Zj));have ZV:=aQ ZC.out.symm;replace Zi:=aQ (blk_below (nB Zi.out) hb);have ZD:=aQ ((by rw [hg];exact Nat.ne_of_lt (blk_lt (nB Zk.out)):Zd ≠ Zj));have ZW:=aQ ZD.out.symm;replace Zk:=aQ (blk_below (nB Zk.out) hb);have ZE:=aQ ((by rw [hg];exact Nat.ne_of_lt (blk_lt (nB Zm.out)):Ze ≠ Zj));have ZX:=aQ ZE.out.symm;replace Zm:=aQ (blk_below (nB Zm.out) hb);clear hb hbox hg;have TU:=ZU.out;have TV:=ZB.out;have TW:=ZV.out;have TX:=ZC.out;have TY:=ZW.out;have TZ:=ZD.out;have Sa:=ZX.out;have Sb:=ZE.out;obtain ⟨WO,WP,WQ,WR,WS,WT⟩:=cz3 Zv.out;obtain ⟨Yh,Yi,YZ⟩:=Kd.N_slice Zt.out;subst YZ) | ((with_reducible refine gate_store (t:=29) (p:=11) rfl ?_);refine store_event (t:=29) (p:=11) (v:=?vo_w163) (w1:=(((w156.setCell ⟨Zj,0,none⟩ (.int .i64 t975)).setCell ⟨Zj,1,none⟩ (.int .i64 t976)).setCell ⟨Zj,2,none⟩ (.slice Yh t977.length Yi))) ?hg ?ho ?hn ?hr ?_;(case ho=>rfl);(case hg=>rfl);(case hn=>rfl);(case hr=>first | (go_simp;done) | (go_simp;rfl));intro w163 hw;have n0_:Aside0 (Kd.N k29 29 w163 w.heap.size (fun k_=>some k_ ≠ (.slice Zs t954.length Zr:Value).ownBlock∧some k_ ≠ (.slice Zq t961.length Zp:Value).ownBlock∧some k_ ≠ (.slice ZP t970.length ZQ:Value).ownBlock∧some k_ ≠ (.slice Yh t977.length Yi:Value).ownBlock∧k_ ≠ Zg∧k_ ≠ Zf∧k_ ≠ Zd∧k_ ≠ Ze∧k_ ≠ Zj) (.slice Zo t947.length Zn) t947):=⟨(by rw [hw];exact (Kd.N_mono (nFN (g:=Zj) Za.out (fun k_ hk=>hk.2)) (fun _ hk=>⟨hk.1.1.1,⟨hk.1.1.2.1,⟨hk.1.1.2.2.1,⟨hk.1.2,⟨hk.1.1.2.2.2.1,⟨hk.1.1.2.2.2.2.1,⟨hk.1.1.2.2.2.2.2.1,⟨hk.1.1.2.2.2.2.2.2,hk.2⟩⟩⟩⟩⟩⟩⟩⟩)))⟩;have n1_:Aside0 (Kd.N k29 29 w163 w.heap.size (fun k_=>some k_ ≠ (.slice Zo t947.length Zn:Value).ownBlock∧some k_ ≠ (.slice Zq t961.length Zp:Value).ownBlock∧some k_ ≠ (.slice ZP t970.length ZQ:Value).ownBlock∧some k_ ≠ (.slice Yh t977.length Yi:Value).ownBlock∧k_ ≠ Zg∧k_ ≠ Zf∧k_ ≠ Zd∧k_ ≠ Ze∧k_ ≠ Zj) (.slice Zs t954.length Zr) t954):=⟨(by rw [hw];exact (Kd.N_mono (nFN (g:=Zj) Zb.out (fun k_ hk=>hk.2)) (fun _ hk=>⟨hk.1.1.1,⟨hk.1.1.2.1,⟨hk.1.1.2.2.1,⟨hk.1.2,⟨hk.1.1.2.2.2.1,⟨hk.1.1.2.2.2.2.1,⟨hk.1.1.2.2.2.2.2.1,⟨hk.1.1.2.2.2.2.2.2,hk.2⟩⟩⟩⟩⟩⟩⟩⟩)))⟩;have n2_:Aside0 (Kd.N k29 29 w163 w.heap.size (fun k_=>some k_ ≠ (.slice Zo t947.length Zn:Value).ownBlock∧some k_ ≠ (.slice Zs t954.length Zr:Value).ownBlock∧some k_ ≠ (.slice ZP t970.length ZQ:Value).ownBlock∧some k_ ≠ (.slice Yh t977.length Yi:Value).ownBlock∧k_ ≠ Zg∧k_ ≠ Zf∧k_ ≠ Zd∧k_ ≠ Ze∧k_ ≠ Zj) (.slice Zq t961.length Zp) t961):=⟨(by rw [hw];exact (Kd.N_mono (nFN (g:=Zj) Zc.out (fun k_ hk=>hk.2)) (fun _ hk=>⟨hk.1.1.1,⟨hk.1.1.2.1,⟨hk.1.1.2.2.1,⟨hk.1.2,⟨hk.1.1.2.2.2.1,⟨hk.1.1.2.2.2.2.1,⟨hk.1.1.2.2.2.2.2.1,⟨hk.1.1.2.2.2.2.2.2,hk.2⟩⟩⟩⟩⟩⟩⟩⟩)))⟩;have n3_:Aside0 (Kd.N k29 29 w163 w.heap.size (fun k_=>some k_ ≠ (.slice Zo t947.length Zn:Value).ownBlock∧some k_ ≠ (.slice Zs t954.length Zr:Value).ownBlock∧some k_ ≠ (.slice Zq t961.length Zp:Value).ownBlock∧some k_ ≠ (.slice Yh t977.length Yi:Value).ownBlock∧k_ ≠ Zg∧k_ ≠ Zf∧k_ ≠ Zd∧k_ ≠ Ze∧k_ ≠ Zj) (.slice ZP t970.length ZQ) t970):=⟨(by rw [hw];exact (Kd.N_mono (nFN (g:=Zj) Zl.out (fun k_ hk=>hk.2)) (fun _ hk=>⟨hk.1.1.1,⟨hk.1.1.2.1,⟨hk.1.1.2.2.1,⟨hk.1.2,⟨hk.1.1.2.2.2.1,⟨hk.1.1.2.2.2.2.1,⟨hk.1.1.2.2.2.2.2.1,⟨hk.1.1.2.2.2.2.2.2,hk.2⟩⟩⟩⟩⟩⟩⟩⟩)))⟩;have n4_:Aside0 (Kd.N k29 29 w163 w.heap.size (fun k_=>some k_ ≠ (.slice Zo t947.length Zn:Value).ownBlock∧some k_ ≠ (.slice Zs t954.length Zr:Value).ownBlock∧some k_ ≠ (.slice Zq t961.length Zp:Value).ownBlock∧k_ ≠ Zg∧k_ ≠ Zf∧k_ ≠ Zd∧k_ ≠ Ze∧k_ ≠ Zj) (.slice Yh t977.length Yi) t977):=⟨(by rw [hw];exact (Kd.N_mono (nFN (g:=Zj) Zt.out (fun k_ hk=>hk.2)) (fun _ hk=>⟨hk.1.1,⟨hk.1.2.1,⟨hk.1.2.2.1,⟨hk.1.2.2.2.1,⟨hk.1.2.2.2.2.1,⟨hk.1.2.2.2.2.2.1,⟨hk.1.2.2.2.2.2.2,hk.2⟩⟩⟩⟩⟩⟩⟩)))⟩;have n5_:Aside0 (w163.heap[Zg]? = some (.cells #[.int .i64 t945,.int .i64 t946,.slice Zo t947.length Zn] 29 (0,0))):=⟨(by rw [hw];exact bF)⟩;have n6_:Aside0 (w163.heap[Zf]? = some (.cells #[.int .i64 t952,.int .i64 t953,.slice Zs t954.length Zr] 29 (0,0))):=⟨(by rw [hw];exact bF)⟩;have n7_:Aside0 (w163.heap[Zd]? = some (.cells #[.int .i64 t959,.int .i64 t960,.slice Zq t961.length Zp] 29 (0,0))):=⟨(by rw [hw];exact bF)⟩;have n8_:Aside0 (w163.heap[Ze]? = some (.cells #[.int .i64 t968,.int .i64 t969,.slice ZP t970.length ZQ] 29 (0,0))):=⟨(by rw [hw];exact bF)⟩;have n9_:Aside0 (w163.heap[Zj]? = some (.cells #[.int .i64 t975,.int .i64 t976,.slice Yh t977.length Yi] 29 (0,0))):=⟨(by rw [hw];exact bP)⟩;have n10_:Aside0 (Below w.heap.size w w163):=⟨(by rw [hw];exact bB)⟩;clear hw;clear Za;clear Zb;clear Zc;clear Zl;clear Zt;clear Zh;clear Zi;clear Zk;clear Zm;clear Zv;clear HB;have Za:=n0_;have Zb:=n1_;have Zc:=n2_;have Zl:=n3_;have Zt:=n4_;have Zh:=n5_;have Zi:=n6_;have Zk:=n7_;have Zm:=n8_;have Zv:=n9_;have HB:=n10_;clear n0_ n1_ n2_ n3_ n4_ n5_ n6_ n7_ n8_ n9_ n10_;obtain ⟨WU,WV,WW,WX,WY,WZ⟩:=cz3 Zm.out) | ((with_reducible refine gate_callee (f:=19) rfl ?_);refine goesL_ (some 73) rfl rfl Try.func19 (by kernel_rfl) rfl #[.agg #[.int .i64 t968,.int .i64 t969,.slice ZP t970.length ZQ]] rfl mP ?_;(with_reducible refine (impl_ClockSteps.calls kj37 t968 t969 (fun k_=>(some k_ ≠ (.slice Zo t947.length Zn:Value).ownBlock∧(some k_ ≠ (.slice Zs t954.length Zr:Value).ownBlock∧(some k_ ≠ (.slice Zq t961.length Zp:Value).ownBlock∧(some k_ ≠ (.slice Yh t977.length Yi:Value).ownBlock∧(k_ ≠ Zg∧(k_ ≠ Zf∧(k_ ≠ Zd∧(k_ ≠ Ze∧k_ ≠ Zj))))))))) _ _ t970 t982 t985 _ ?Zu A51.out).mono ?_);(case Zu=>exact Kd.N_V (Zl.out));rintro e w165 ⟨v983,rfl,ho0,hb⟩;refine ⟨_,rfl,?_⟩;replace Zl:=aQ (Kd.N_elder' (nN Zl.out) (Kd.N_base ho0) hb);have ZF:=aQ (Kd.N_lower (Kd.N_mono (ok':=fun k_=>some k_ ≠ (.slice Zo t947.length Zn:Value).ownBlock∧some k_ ≠ (.slice Zs t954.length Zr:Value).ownBlock∧some k_ ≠ (.slice Zq t961.length Zp:Value).ownBlock∧some k_ ≠ (.slice Yh t977.length Yi:Value).ownBlock∧k_ ≠ Zg∧k_ ≠ Zf∧k_ ≠ Zd∧k_ ≠ Ze∧k_ ≠ Zj) ho0 (fun k_ hk_=>⟨Or.elim hk_ (fun hs_=>hs_.1) (fun hn_=>(Kd.fresh' (Kd.N_lt (nN Za.out)) k_ hn_)),Or.elim hk_ (fun hs_=>hs_.2.1) (fun hn_=>(Kd.fresh' (Kd.N_lt (nN Zb.out)) k_ hn_)),Or.elim hk_ (fun hs_=>hs_.2.2.1) (fun hn_=>(Kd.fresh' (Kd.N_lt (nN Zc.out)) k_ hn_)),Or.elim hk_ (fun hs_=>hs_.2.2.2.1) (fun hn_=>(Kd.fresh' (Kd.N_lt (nN Zt.out)) k_ hn_)),Or.elim hk_ (fun hs_=>hs_.2.2.2.2.1) (fun hn_=>(Kd.freshB (nB Zh.out) k_ hn_)),Or.elim hk_ (fun hs_=>hs_.2.2.2.2.2.1) (fun hn_=>(Kd.freshB (nB Zi.out) k_ hn_)),Or.elim hk_ (fun hs_=>hs_.2.2.2.2.2.2.1) (fun hn_=>(Kd.freshB (nB Zk.out) k_ hn_)),Or.elim hk_ (fun hs_=>hs_.2.2.2.2.2.2.2.1) (fun hn_=>(Kd.freshB (nB Zm.out) k_ hn_)),Or.elim hk_ (fun hs_=>hs_.2.2.2.2.2.2.2.2) (fun hn_=>(Kd.freshB (nB Zv.out) k_ hn_))⟩)) (below_size bB));replace Za:=aQ (Kd.N_elder' (nN Za.out) (Kd.N_base ho0) hb);replace Zb:=aQ (Kd.N_elder' (nN Zb.out) (Kd.N_base ho0) hb);replace Zc:=aQ (Kd.N_elder' (nN Zc.out) (Kd.N_base ho0) hb);replace Zt:=aQ (Kd.N_elder' (nN Zt.out) (Kd.N_base ho0) hb);replace Zh:=aQ (blk_below (nB Zh.out) hb);replace Zi:=aQ (blk_below (nB Zi.out) hb);replace Zk:=aQ (blk_below (nB Zk.out) hb);replace Zm:=aQ (blk_below (nB Zm.out) hb);replace Zv:=aQ (blk_below (nB Zv.out) hb);replace HB:=aQ (below_step bB hb);(try clear hb);(try clear ho0);have Sc:=ZJ.out;have Sd:=ZM.out;obtain ⟨Va,Vb,Vc,Vd,Ve,Vf⟩:=cz3 Zi.out) | ((with_reducible refine gate_callee (f:=19) rfl ?_);refine goesL_ (some 78) rfl rfl Try.func19 (by kernel_rfl) rfl #[.agg #[.int .i64 t952,.int .i64 t953,.slice Zs t954.length Zr]] rfl mP ?_;(with_reducible refine (impl_ClockSteps.calls kj37 t952 t953 (fun k_=>((some k_ ≠ (.slice Zo t947.length Zn:Value).ownBlock∧(some k_ ≠ (.slice Zq t961.length Zp:Value).ownBlock∧(some k_ ≠ (.slice ZP t970.length ZQ:Value).ownBlock∧(some k_ ≠ (.slice Yh t977.length Yi:Value).ownBlock∧(k_ ≠ Zg∧(k_ ≠ Zf∧(k_ ≠ Zd∧(k_ ≠ Ze∧k_ ≠ Zj))))))))∧some k_ ≠ (v983:Value).ownBlock)) _ _ t954 t986 t989 _ ?Zu A52.out).mono ?_);(case Zu=>exact Kd.N_V (Zb.out));rintro e w168 ⟨v987,rfl,ho0,hb⟩;refine ⟨_,rfl,?_⟩;replace Zb:=aQ (Kd.N_elder' (nN Zb.out) (Kd.N_base ho0) hb);have Yn:=aQ (Kd.N_lower (Kd.N_mono (ok':=fun k_=>some k_ ≠ (.slice Zo t947.length Zn:Value).ownBlock∧some k_ ≠ (.slice Zq t961.length Zp:Value).ownBlock∧some k_ ≠ (.slice ZP t970.length ZQ:Value).ownBlock∧some k_ ≠ (.slice Yh t977.length Yi:Value).ownBlock∧some k_ ≠ (v983:Value).ownBlock∧k_ ≠ Zg∧k_ ≠ Zf∧k_ ≠ Zd∧k_ ≠ Ze∧k_ ≠ Zj) ho0 (fun k_ hk_=>⟨Or.elim hk_ (fun hs_=>hs_.1.1) (fun hn_=>(Kd.fresh' (Kd.N_lt (nN Za.out)) k_ hn_)),Or.elim hk_ (fun hs_=>hs_.1.2.1) (fun hn_=>(Kd.fresh' (Kd.N_lt (nN Zc.out)) k_ hn_)),Or.elim hk_ (fun hs_=>hs_.1.2.2.1) (fun hn_=>(Kd.fresh' (Kd.N_lt (nN Zl.out)) k_ hn_)),Or.elim hk_ (fun hs_=>hs_.1.2.2.2.1) (fun hn_=>(Kd.fresh' (Kd.N_lt (nN Zt.out)) k_ hn_)),Or.elim hk_ (fun hs_=>hs_.2) (fun hn_=>(Kd.fresh' (Kd.N_lt (nN ZF.out)) k_ hn_)),Or.elim hk_ (fun hs_=>hs_.1.2.2.2.2.1) (fun hn_=>(Kd.freshB (nB Zh.out) k_ hn_)),Or.elim hk_ (fun hs_=>hs_.1.2.2.2.2.2.1) (fun hn_=>(Kd.freshB (nB Zi.out) k_ hn_)),Or.elim hk_ (fun hs_=>hs_.1.2.2.2.2.2.2.1) (fun hn_=>(Kd.freshB (nB Zk.out) k_ hn_)),Or.elim hk_ (fun hs_=>hs_.1.2.2.2.2.2.2.2.1) (fun hn_=>(Kd.freshB (nB Zm.out) k_ hn_)),Or.elim hk_ (fun hs_=>hs_.1.2.2.2.2.2.2.2.2) (fun hn_=>(Kd.freshB (nB Zv.out) k_ hn_))⟩)) (below_size bB));replace Za:=aQ (Kd.N_elder' (nN Za.out) (Kd.N_base ho0) hb);replace Zc:=aQ (Kd.N_elder' (nN Zc.out) (Kd.N_base ho0) hb);replace Zl:=aQ (Kd.N_elder' (nN Zl.out) (Kd.N_base ho0) hb);replace Zt:=aQ (Kd.N_elder' (nN Zt.out) (Kd.N_base ho0) hb);replace ZF:=aQ (Kd.N_elder' (nN ZF.out) (Kd.N_base ho0) hb);replace Zh:=aQ (blk_below (nB Zh.out) hb);replace Zi:=aQ (blk_below (nB Zi.out) hb);replace Zk:=aQ (blk_below (nB Zk.out) hb);replace Zm:=aQ (blk_below (nB Zm.out) hb);replace Zv:=aQ (blk_below (nB Zv.out) hb);replace HB:=aQ (below_step bB hb);(try clear hb);(try clear ho0)))
        go_ret
        exact ⟨rfl,bB⟩
def laws_FnClockLater.Pure:Prop:=∀ (l0:List Int),l0.length ≤ maxLen → l0.length * 1 ≤ 140737488351232 → (∀ x ∈ l0,(Lit.int .u8 x).wf = true) → ∃ k,laws_FnClockLater.f k l0 = some true
theorem laws_FnClockLater.walk (P:laws_FnClockLater.Pure) (a0:Option Addr) (len0 cap0:Nat) (z0:List Int) (w:World) (w0:(a0 = none∧len0 = 0∧cap0 = 0∧z0 = []) ∨ ∃ x,a0 = some x∧len0 ≤ cap0∧cap0 ≤ maxLen∧z0.length = cap0∧(∀ i,i < z0.length → w.cell? (x.add i) = some (.int .u8 (z0.getD i 0)))∧∀ n ∈ z0,(Lit.int .u8 n).wf = true) (y0:len0 * 1 ≤ 140737488351232) :
  Calls Try.prog 12 #[.slice a0 len0 cap0] w fun e w'=>e = .returned (.bool true)∧Below w.heap.size w w':=by
 obtain ⟨l0,rfl,hr0,hm0,Za,hc0⟩:=ReadsInt.ofRowC w0
 obtain ⟨k,h⟩:=P l0 hm0 y0 Za
 refine (laws_FnClockLater.calls k _ _ l0 true w (Kd.C_of_reads (d:=(0:Int)) (h1:=fun _=>rfl) hr0) hc0 h).mono ?_
 rintro e w' ⟨rfl,hd⟩
 exact ⟨rfl,hd⟩
end Go.Proofs.Ytnkgcjdlfenepaa.P
