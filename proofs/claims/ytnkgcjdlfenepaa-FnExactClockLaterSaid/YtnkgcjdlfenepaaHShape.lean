/- What a term with time is, as the program asks it: clockShape, with the closure that it hands to slices.ContainsFunc. No condition. -/
import Derived.Test.YtnkgcjdlfenepaaP0
import Derived.Test.YtnkgcjdlfenepaaP1
import Derived.Test.YtnkgcjdlfenepaaCut
import Derived.Test.YtnkgcjdlfenepaaHIdx
namespace Go.Proofs.Ytnkgcjdlfenepaa.P
open Go.RowKit Go.Proofs.YtnkgcjdlfenepaaW.PrintWords Go.Proofs.YtnkgcjdlfenepaaW.PrintLast Go.Proofs.YtnkgcjdlfenepaaW.PrintMore Go.Proofs.Ytnkgcjdlfenepaa.Any
attribute [local go_sem] max2_int min2_int max_two min_two max_three min_three max_four min_four
set_option linter.unusedVariables false
set_option linter.unusedSimpArgs false
mutual
def impl_clockAny.f:Nat → List S29 → Option Bool
 | 0,_=>none
 | k + 1,xs=>anyOf (fun x=>(impl_clockShape.f k x.f0 x.f1 x.f2).bind fun t=>some (!t)) xs
def impl_clockShape.j0:Nat → Bool → Int → Int → List (S29) → Option (Bool)
 | 0,_,_,_,_=>none
 | k + 1,x27,x155000,x155001,x155002=>if x27 = true then (if x155001 = 0 then (if (x155002.length:Int) = 2 then ((impl_clockAny.f k x155002).bind fun t159=>(some (!t159))) else (some false)) else (some false)) else (some false)
def impl_clockShape.f:Nat → Int → Int → List S29 → Option Bool
 | 0,_,_,_=>none
 | k + 1,a0_0,a0_1,l0_2=>if a0_0 = 0 then (if a0_1 = 0 then (if (l0_2.length:Int) = 0 then ((impl_clockAny.f k l0_2).bind fun t155=>(some (!t155))) else (some false)) else (some false)) else (if a0_0 = 1 then ((impl_ActOk.f a0_1).bind fun t156=>(if t156 = true then (if (l0_2.length:Int) = 1 then ((impl_clockAny.f k l0_2).bind fun t157=>(some (!t157))) else (some false)) else (some false))) else (if a0_0 = 2 then (if a0_1 < 1 then (some false) else (if a0_1 > 9 then (some false) else (if (l0_2.length:Int) = 1 then ((impl_clockAny.f k l0_2).bind fun t158=>(some (!t158))) else (some false)))) else (if a0_0 = 3 then (impl_clockShape.j0 k (a0_0 == 3) a0_0 a0_1 l0_2) else (impl_clockShape.j0 k (a0_0 == 4) a0_0 a0_1 l0_2))))
end
theorem impl_clockShape.mono_l:∀ k,(∀ y0,LeO (impl_clockAny.f k y0) (impl_clockAny.f (k + 1) y0))∧(∀ y0 y1 y2 y3,LeO (impl_clockShape.j0 k y0 y1 y2 y3) (impl_clockShape.j0 (k + 1) y0 y1 y2 y3))∧(∀ y0 y1 y2,LeO (impl_clockShape.f k y0 y1 y2) (impl_clockShape.f (k + 1) y0 y1 y2))
 | 0=>⟨fun _ r h=>by simp [impl_clockAny.f] at h,fun _ _ _ _ r h=>by simp [impl_clockShape.j0] at h,fun _ _ _ r h=>by simp [impl_clockShape.f] at h⟩
 | k + 1=>by
  obtain ⟨ih0,ih1,ih2⟩:=impl_clockShape.mono_l k
  refine ⟨?_,?_,?_⟩
  ·intro y0
   unfold impl_clockAny.f
   exact anyOf_mono (fun x=>LeO.bind (ih2 _ _ _) (fun _=>LeO.refl _)) _
  ·intro y0 y1 y2 y3
   unfold impl_clockShape.j0
   repeat' first
   | (with_reducible exact ih0 _)
   | (with_reducible exact ih1 _ _ _ _)
   | (with_reducible exact LeO.refl _)
   | (with_reducible exact LeO.none _)
   | (with_reducible refine LeO.ite ?_ ?_)
   | (with_reducible refine LeO.bind ?_ (fun _=>?_))
  ·intro y0 y1 y2
   unfold impl_clockShape.f
   repeat' first
   | (with_reducible exact ih0 _)
   | (with_reducible exact ih1 _ _ _ _)
   | (with_reducible exact LeO.refl _)
   | (with_reducible exact LeO.none _)
   | (with_reducible refine LeO.ite ?_ ?_)
   | (with_reducible refine LeO.bind ?_ (fun _=>?_))
theorem impl_clockShape.mono:∀ a0 a1 a2 k,LeO (impl_clockShape.f k a0 a1 a2) (impl_clockShape.f (k + 1) a0 a1 a2):=fun a0 a1 a2 k=>(impl_clockShape.mono_l k).2.2 a0 a1 a2
abbrev impl_clockAny.Con (k:Nat):Prop:=∀ (A0:Option Addr) (c0:Nat) (l0:List S29) (r:Bool) (w:World) (hr0:Kd.C k29 w A0 l0.length l0) (hc0:l0.length ≤ c0) (h:impl_clockAny.f k l0 = some r),
  Calls Try.prog 59 #[.slice A0 l0.length c0,.func (.func 60) #[] #[]] w fun e w'=>e = .returned (.bool r)∧Below w.heap.size w w'
set_option maxHeartbeats 8000000 in
set_option maxRecDepth 100000 in
theorem impl_clockShape.calls_of (k:Nat) (ihS:∀ j_,j_ ≤ k → impl_clockAny.Con j_) (a0_0:Int) (a0_1:Int) (A0_2:Option Addr) (c0_2:Nat) (l0_2:List (S29)) (r:Bool) (w:World) (hr0_2:Kd.C k29 w A0_2 l0_2.length l0_2) (hc0_2:l0_2.length ≤ c0_2) (h:(if a0_0 = 0 then (if a0_1 = 0 then (if (l0_2.length:Int) = 0 then ((impl_clockAny.f k l0_2).bind fun t155=>(some (!t155))) else (some false)) else (some false)) else (if a0_0 = 1 then ((impl_ActOk.f a0_1).bind fun t156=>(if t156 = true then (if (l0_2.length:Int) = 1 then ((impl_clockAny.f k l0_2).bind fun t157=>(some (!t157))) else (some false)) else (some false))) else (if a0_0 = 2 then (if a0_1 < 1 then (some false) else (if a0_1 > 9 then (some false) else (if (l0_2.length:Int) = 1 then ((impl_clockAny.f k l0_2).bind fun t158=>(some (!t158))) else (some false)))) else (if a0_0 = 3 then (impl_clockShape.j0 k (a0_0 == 3) a0_0 a0_1 l0_2) else (impl_clockShape.j0 k (a0_0 == 4) a0_0 a0_1 l0_2))))) = some r) :
  Calls Try.prog 43 #[.agg #[.int .i64 a0_0,.int .i64 a0_1,.slice A0_2 l0_2.length c0_2]] w fun e w'=>e = .returned (.bool r)∧Below w.heap.size w w':=by
 have hu29:=Try.underlying29
 have Zg:=aQ hr0_2
 have Zh:=aQ hc0_2
 clear hr0_2 hc0_2
 have HB:=aQ (Below.refl w.heap.size w)
 have H:=h
 clear h
 by_cases c2:a0_0 = 0
 ·rw [if_pos c2] at H
  have c2b0:(a0_0 == 0) = true:=beq_iff_eq.mpr c2
  have c2b1:(a0_0 != 0) = false:=bne_eq_false_iff_eq.mpr c2
  clear c2
  by_cases c3:a0_1 = 0;rotate_left
  ·rw [if_neg c3] at H
   have c3b0:(a0_1 == 0) = false:=beq_eq_false_iff_ne.mpr c3
   have c3b1:(a0_1 != 0) = true:=bne_iff_ne.mpr c3
   obtain rfl:=Option.some.inj H
   go_enter Try.func43,Try.ntmps43
   go_wp2_with (first | ((with_reducible refine gate_dst (N:=1) rfl ?_);refine box_event ?hg (N:=1) ?hd (cs:=#[.int .i64 a0_0,.int .i64 a0_1,.slice A0_2 l0_2.length c0_2]) (t:=29) ?hr ?_;(case hd=>rfl);(case hg=>rfl);(case hr=>first | (go_simp;done) | (go_simp;rfl));intro Za hg w11 hbox hb;have Zb:=aQ (hbox);have Zd:=aQ ((by rw [hg];exact (below_size (by repeat (first | (with_reducible first | exact HB.out | apply below_alloc | apply pw_below_drewN | apply below_drew1) | exact HB.out))):w.heap.size ≤ Za));have Zc:=aQ ((by rw [hg];exact (below_size (by repeat (first | (with_reducible first | exact HB.out | apply below_alloc | apply pw_below_drewN | apply below_drew1) | exact HB.out))):w.heap.size ≤ Za));replace HB:=aQ (below_step (by repeat (first | (with_reducible first | exact HB.out | apply below_alloc | apply pw_below_drewN | apply below_drew1) | exact HB.out)) hb);clear hb hbox hg;obtain ⟨Zp,Zq,Zr,Zs,Zt,Zu⟩:=cz3 Zb.out))
   go_ret
   exact ⟨rfl,by repeat (first | (with_reducible first | exact HB.out | apply below_alloc | apply pw_below_drewN | apply below_drew1 | refine below_set ?_ Zc.out) | exact HB.out)⟩
  rw [if_pos c3] at H
  have c3b0:(a0_1 == 0) = true:=beq_iff_eq.mpr c3
  have c3b1:(a0_1 != 0) = false:=bne_eq_false_iff_eq.mpr c3
  clear c3
  by_cases c4:(l0_2.length:Int) = 0;rotate_left
  ·rw [if_neg c4] at H
   have c4b0:((l0_2.length:Int) == 0) = false:=beq_eq_false_iff_ne.mpr c4
   have c4b1:((l0_2.length:Int) != 0) = true:=bne_iff_ne.mpr c4
   have c4b2:¬ (l0_2 = []):=fun h_=>c4 (by rw [h_];rfl)
   obtain rfl:=Option.some.inj H
   go_enter Try.func43,Try.ntmps43
   go_wp2_with (first | ((with_reducible refine gate_dst (N:=1) rfl ?_);refine box_event ?hg (N:=1) ?hd (cs:=#[.int .i64 a0_0,.int .i64 a0_1,.slice A0_2 l0_2.length c0_2]) (t:=29) ?hr ?_;(case hd=>rfl);(case hg=>rfl);(case hr=>first | (go_simp;done) | (go_simp;rfl));intro Za hg w9 hbox hb;have Zb:=aQ (hbox);have Zd:=aQ ((by rw [hg];exact (below_size (by repeat (first | (with_reducible first | exact HB.out | apply below_alloc | apply pw_below_drewN | apply below_drew1) | exact HB.out))):w.heap.size ≤ Za));have Zc:=aQ ((by rw [hg];exact (below_size (by repeat (first | (with_reducible first | exact HB.out | apply below_alloc | apply pw_below_drewN | apply below_drew1) | exact HB.out))):w.heap.size ≤ Za));replace HB:=aQ (below_step (by repeat (first | (with_reducible first | exact HB.out | apply below_alloc | apply pw_below_drewN | apply below_drew1) | exact HB.out)) hb);clear hb hbox hg;obtain ⟨Zv,Zw,Zx,Zy,Zz,ZA⟩:=cz3 Zb.out))
   go_ret
   exact ⟨rfl,by repeat (first | (with_reducible first | exact HB.out | apply below_alloc | apply pw_below_drewN | apply below_drew1 | refine below_set ?_ Zc.out) | exact HB.out)⟩
  rw [if_pos c4] at H
  have c4b0:((l0_2.length:Int) == 0) = true:=beq_iff_eq.mpr c4
  have c4b1:((l0_2.length:Int) != 0) = false:=bne_eq_false_iff_eq.mpr c4
  clear c4
  obtain ⟨t155,A5,H⟩:=bQ H
  replace H:(some (!t155)) = some r:=H
  obtain rfl:=Option.some.inj H
  go_enter Try.func43,Try.ntmps43
  go_wp2_with (first | ((with_reducible refine gate_dst (N:=1) rfl ?_);refine box_event ?hg (N:=1) ?hd (cs:=#[.int .i64 a0_0,.int .i64 a0_1,.slice A0_2 l0_2.length c0_2]) (t:=29) ?hr ?_;(case hd=>rfl);(case hg=>rfl);(case hr=>first | (go_simp;done) | (go_simp;rfl));intro Za hg w6 hbox hb;have Zb:=aQ (hbox);have Zd:=aQ ((by rw [hg];exact (below_size (by repeat (first | (with_reducible first | exact HB.out | apply below_alloc | apply pw_below_drewN | apply below_drew1) | exact HB.out))):w.heap.size ≤ Za));have Zc:=aQ ((by rw [hg];exact (below_size (by repeat (first | (with_reducible first | exact HB.out | apply below_alloc | apply pw_below_drewN | apply below_drew1) | exact HB.out))):w.heap.size ≤ Za));replace HB:=aQ (below_step (by repeat (first | (with_reducible first | exact HB.out | apply below_alloc | apply pw_below_drewN | apply below_drew1) | exact HB.out)) hb);clear hb hbox hg;obtain ⟨YJ,YK,YL,YM,YN,YO⟩:=cz3 Zb.out) | (go_at_call 59;(with_reducible refine (ihS k (Nat.le_refl _) _ _ l0_2 t155 _ ?Ze ?Zf A5.out).mono ?_);(case Ze=>repeat (first | exact (Kd.C_below Zg.out HB.out) | (with_reducible refine Kd.C_alloc ?_ _) | (with_reducible refine Kd.C_drewN ?_ _) | (with_reducible refine Kd.C_drew ?_)));(case Zf=>exact Zh.out);rintro e w8 ⟨rfl,hb⟩;replace Zb:=aQ (blk_below (g:=Za) (o:=.cells #[.int .i64 a0_0,.int .i64 a0_1,.slice A0_2 l0_2.length c0_2] 29 (0,0)) (by (with_reducible repeat (first | refine blk_drewN ?_ _ | refine blk_drew ?_ | refine blk_alloc ?_ _));exact Zb.out) hb);replace HB:=aQ (below_step (by repeat (first | (with_reducible first | exact HB.out | apply below_alloc | apply pw_below_drewN | apply below_drew1 | refine below_set ?_ Zc.out) | exact HB.out)) hb);(try clear hb)))
  go_ret
  exact ⟨rfl,by repeat (first | (with_reducible first | exact HB.out | apply below_alloc | apply pw_below_drewN | apply below_drew1 | refine below_set ?_ Zc.out) | exact HB.out)⟩
 rw [if_neg c2] at H
 have c2b0:(a0_0 == 0) = false:=beq_eq_false_iff_ne.mpr c2
 have c2b1:(a0_0 != 0) = true:=bne_iff_ne.mpr c2
 by_cases c13:a0_0 = 1
 ·rw [if_pos c13] at H
  have c13b0:(a0_0 == 1) = true:=beq_iff_eq.mpr c13
  have c13b1:(a0_0 != 1) = false:=bne_eq_false_iff_eq.mpr c13
  clear c13
  obtain ⟨t156,A14,H⟩:=bQ H
  (try dsimp only at H)
  by_cases c15:t156 = true
  ·subst c15
   have H1:(if (l0_2.length:Int) = 1 then ((impl_clockAny.f k l0_2).bind fun t157=>(some (!t157))) else (some false)) = some r:=by rw [if_pos rfl] at H;exact H
   clear H
   have H:=H1
   clear H1
   by_cases c16:(l0_2.length:Int) = 1;rotate_left
   ·rw [if_neg c16] at H
    have c16b0:((l0_2.length:Int) == 1) = false:=beq_eq_false_iff_ne.mpr c16
    have c16b1:((l0_2.length:Int) != 1) = true:=bne_iff_ne.mpr c16
    obtain rfl:=Option.some.inj H
    go_enter Try.func43,Try.ntmps43
    go_wp2_with (first | ((with_reducible refine gate_dst (N:=1) rfl ?_);refine box_event ?hg (N:=1) ?hd (cs:=#[.int .i64 a0_0,.int .i64 a0_1,.slice A0_2 l0_2.length c0_2]) (t:=29) ?hr ?_;(case hd=>rfl);(case hg=>rfl);(case hr=>first | (go_simp;done) | (go_simp;rfl));intro Za hg w21 hbox hb;have Zb:=aQ (hbox);have Zd:=aQ ((by rw [hg];exact (below_size (by repeat (first | (with_reducible first | exact HB.out | apply below_alloc | apply pw_below_drewN | apply below_drew1) | exact HB.out))):w.heap.size ≤ Za));have Zc:=aQ ((by rw [hg];exact (below_size (by repeat (first | (with_reducible first | exact HB.out | apply below_alloc | apply pw_below_drewN | apply below_drew1) | exact HB.out))):w.heap.size ≤ Za));replace HB:=aQ (below_step (by repeat (first | (with_reducible first | exact HB.out | apply below_alloc | apply pw_below_drewN | apply below_drew1) | exact HB.out)) hb);clear hb hbox hg;obtain ⟨ZB,ZC,ZD,ZE,ZF,ZG⟩:=cz3 Zb.out) | ((with_reducible refine gate_callee (f:=58) rfl ?_);refine goesL_ (some 15) rfl rfl Try.func58 (by kernel_rfl) rfl #[.int .i64 a0_1] rfl mP ?_;(with_reducible refine (impl_ActOk.calls a0_1 true _ A14.out).mono ?_);rintro e w' ⟨rfl,⟨nd,rfl⟩⟩;refine ⟨_,rfl,?_⟩))
    go_ret
    exact ⟨rfl,by repeat (first | (with_reducible first | exact HB.out | apply below_alloc | apply pw_below_drewN | apply below_drew1 | refine below_set ?_ Zc.out) | exact HB.out)⟩
   rw [if_pos c16] at H
   have c16b0:((l0_2.length:Int) == 1) = true:=beq_iff_eq.mpr c16
   have c16b1:((l0_2.length:Int) != 1) = false:=bne_eq_false_iff_eq.mpr c16
   clear c16
   obtain ⟨t157,A17,H⟩:=bQ H
   replace H:(some (!t157)) = some r:=H
   obtain rfl:=Option.some.inj H
   go_enter Try.func43,Try.ntmps43
   go_wp2_with (first | ((with_reducible refine gate_dst (N:=1) rfl ?_);refine box_event ?hg (N:=1) ?hd (cs:=#[.int .i64 a0_0,.int .i64 a0_1,.slice A0_2 l0_2.length c0_2]) (t:=29) ?hr ?_;(case hd=>rfl);(case hg=>rfl);(case hr=>first | (go_simp;done) | (go_simp;rfl));intro Za hg w18 hbox hb;have Zb:=aQ (hbox);have Zd:=aQ ((by rw [hg];exact (below_size (by repeat (first | (with_reducible first | exact HB.out | apply below_alloc | apply pw_below_drewN | apply below_drew1) | exact HB.out))):w.heap.size ≤ Za));have Zc:=aQ ((by rw [hg];exact (below_size (by repeat (first | (with_reducible first | exact HB.out | apply below_alloc | apply pw_below_drewN | apply below_drew1) | exact HB.out))):w.heap.size ≤ Za));replace HB:=aQ (below_step (by repeat (first | (with_reducible first | exact HB.out | apply below_alloc | apply pw_below_drewN | apply below_drew1) | exact HB.out)) hb);clear hb hbox hg;obtain ⟨ZH,ZI,ZJ,ZK,ZL,ZM⟩:=cz3 Zb.out) | ((with_reducible refine gate_callee (f:=58) rfl ?_);refine goesL_ (some 15) rfl rfl Try.func58 (by kernel_rfl) rfl #[.int .i64 a0_1] rfl mP ?_;(with_reducible refine (impl_ActOk.calls a0_1 true _ A14.out).mono ?_);rintro e w' ⟨rfl,⟨nd,rfl⟩⟩;refine ⟨_,rfl,?_⟩) | (go_at_call 59;(with_reducible refine (ihS k (Nat.le_refl _) _ _ l0_2 t157 _ ?Ze ?Zf A17.out).mono ?_);(case Ze=>repeat (first | exact (Kd.C_below Zg.out (by repeat (first | (with_reducible first | exact HB.out | apply below_alloc | apply pw_below_drewN | apply below_drew1 | refine below_set ?_ Zc.out) | exact HB.out))) | (with_reducible refine Kd.C_alloc ?_ _) | (with_reducible refine Kd.C_drewN ?_ _) | (with_reducible refine Kd.C_drew ?_)));(case Zf=>exact Zh.out);rintro e w20 ⟨rfl,hb⟩;replace Zb:=aQ (blk_below (g:=Za) (o:=.cells #[.int .i64 a0_0,.int .i64 a0_1,.slice A0_2 l0_2.length c0_2] 29 (0,0)) (by (with_reducible repeat (first | refine blk_drewN ?_ _ | refine blk_drew ?_ | refine blk_alloc ?_ _));exact Zb.out) hb);replace HB:=aQ (below_step (by repeat (first | (with_reducible first | exact HB.out | apply below_alloc | apply pw_below_drewN | apply below_drew1 | refine below_set ?_ Zc.out) | exact HB.out)) hb);(try clear hb)))
   go_ret
   exact ⟨rfl,by repeat (first | (with_reducible first | exact HB.out | apply below_alloc | apply pw_below_drewN | apply below_drew1 | refine below_set ?_ Zc.out) | exact HB.out)⟩
  ·replace c15:=Bool.eq_false_iff.mpr c15
   subst c15
   have H1:(some false) = some r:=by rw [if_neg (show ¬ (false = true) by decide)] at H;exact H
   clear H
   have H:=H1
   clear H1
   obtain rfl:=Option.some.inj H
   go_enter Try.func43,Try.ntmps43
   go_wp2_with (first | ((with_reducible refine gate_dst (N:=1) rfl ?_);refine box_event ?hg (N:=1) ?hd (cs:=#[.int .i64 a0_0,.int .i64 a0_1,.slice A0_2 l0_2.length c0_2]) (t:=29) ?hr ?_;(case hd=>rfl);(case hg=>rfl);(case hr=>first | (go_simp;done) | (go_simp;rfl));intro Za hg w23 hbox hb;have Zb:=aQ (hbox);have Zd:=aQ ((by rw [hg];exact (below_size (by repeat (first | (with_reducible first | exact HB.out | apply below_alloc | apply pw_below_drewN | apply below_drew1) | exact HB.out))):w.heap.size ≤ Za));have Zc:=aQ ((by rw [hg];exact (below_size (by repeat (first | (with_reducible first | exact HB.out | apply below_alloc | apply pw_below_drewN | apply below_drew1) | exact HB.out))):w.heap.size ≤ Za));replace HB:=aQ (below_step (by repeat (first | (with_reducible first | exact HB.out | apply below_alloc | apply pw_below_drewN | apply below_drew1) | exact HB.out)) hb);clear hb hbox hg;obtain ⟨ZN,ZO,ZP,ZQ,ZR,ZS⟩:=cz3 Zb.out) | ((with_reducible refine gate_callee (f:=58) rfl ?_);refine goesL_ (some 15) rfl rfl Try.func58 (by kernel_rfl) rfl #[.int .i64 a0_1] rfl mP ?_;(with_reducible refine (impl_ActOk.calls a0_1 false _ A14.out).mono ?_);rintro e w' ⟨rfl,⟨nd,rfl⟩⟩;refine ⟨_,rfl,?_⟩))
   go_ret
   exact ⟨rfl,by repeat (first | (with_reducible first | exact HB.out | apply below_alloc | apply pw_below_drewN | apply below_drew1 | refine below_set ?_ Zc.out) | exact HB.out)⟩
 rw [if_neg c13] at H
 have c13b0:(a0_0 == 1) = false:=beq_eq_false_iff_ne.mpr c13
 have c13b1:(a0_0 != 1) = true:=bne_iff_ne.mpr c13
 by_cases c25:a0_0 = 2
 ·rw [if_pos c25] at H
  have c25b0:(a0_0 == 2) = true:=beq_iff_eq.mpr c25
  have c25b1:(a0_0 != 2) = false:=bne_eq_false_iff_eq.mpr c25
  clear c25
  by_cases c26:a0_1 < 1
  ·rw [if_pos c26] at H
   have c26b0:decide (a0_1 < 1) = true:=decide_eq_true c26
   clear c26
   obtain rfl:=Option.some.inj H
   go_enter Try.func43,Try.ntmps43
   go_wp2_with (first | ((with_reducible refine gate_dst (N:=1) rfl ?_);refine box_event ?hg (N:=1) ?hd (cs:=#[.int .i64 a0_0,.int .i64 a0_1,.slice A0_2 l0_2.length c0_2]) (t:=29) ?hr ?_;(case hd=>rfl);(case hg=>rfl);(case hr=>first | (go_simp;done) | (go_simp;rfl));intro Za hg w27 hbox hb;have Zb:=aQ (hbox);have Zd:=aQ ((by rw [hg];exact (below_size (by repeat (first | (with_reducible first | exact HB.out | apply below_alloc | apply pw_below_drewN | apply below_drew1) | exact HB.out))):w.heap.size ≤ Za));have Zc:=aQ ((by rw [hg];exact (below_size (by repeat (first | (with_reducible first | exact HB.out | apply below_alloc | apply pw_below_drewN | apply below_drew1) | exact HB.out))):w.heap.size ≤ Za));replace HB:=aQ (below_step (by repeat (first | (with_reducible first | exact HB.out | apply below_alloc | apply pw_below_drewN | apply below_drew1) | exact HB.out)) hb);clear hb hbox hg;obtain ⟨ZT,ZU,ZV,ZW,ZX,ZY⟩:=cz3 Zb.out))
   go_ret
   exact ⟨rfl,by repeat (first | (with_reducible first | exact HB.out | apply below_alloc | apply pw_below_drewN | apply below_drew1 | refine below_set ?_ Zc.out) | exact HB.out)⟩
  rw [if_neg c26] at H
  have c26b0:decide (a0_1 < 1) = false:=decide_eq_false c26
  clear c26
  by_cases c29:a0_1 > 9
  ·rw [if_pos c29] at H
   have c29b0:decide (9 < a0_1) = true:=decide_eq_true c29
   clear c29
   obtain rfl:=Option.some.inj H
   go_enter Try.func43,Try.ntmps43
   go_wp2_with (first | ((with_reducible refine gate_dst (N:=1) rfl ?_);refine box_event ?hg (N:=1) ?hd (cs:=#[.int .i64 a0_0,.int .i64 a0_1,.slice A0_2 l0_2.length c0_2]) (t:=29) ?hr ?_;(case hd=>rfl);(case hg=>rfl);(case hr=>first | (go_simp;done) | (go_simp;rfl));intro Za hg w30 hbox hb;have Zb:=aQ (hbox);have Zd:=aQ ((by rw [hg];exact (below_size (by repeat (first | (with_reducible first | exact HB.out | apply below_alloc | apply pw_below_drewN | apply below_drew1) | exact HB.out))):w.heap.size ≤ Za));have Zc:=aQ ((by rw [hg];exact (below_size (by repeat (first | (with_reducible first | exact HB.out | apply below_alloc | apply pw_below_drewN | apply below_drew1) | exact HB.out))):w.heap.size ≤ Za));replace HB:=aQ (below_step (by repeat (first | (with_reducible first | exact HB.out | apply below_alloc | apply pw_below_drewN | apply below_drew1) | exact HB.out)) hb);clear hb hbox hg;obtain ⟨ZZ,Ya,Yb,Yc,Yd,Ye⟩:=cz3 Zb.out))
   go_ret
   exact ⟨rfl,by repeat (first | (with_reducible first | exact HB.out | apply below_alloc | apply pw_below_drewN | apply below_drew1 | refine below_set ?_ Zc.out) | exact HB.out)⟩
  rw [if_neg c29] at H
  have c29b0:decide (9 < a0_1) = false:=decide_eq_false c29
  clear c29
  by_cases c32:(l0_2.length:Int) = 1;rotate_left
  ·rw [if_neg c32] at H
   have c32b0:((l0_2.length:Int) == 1) = false:=beq_eq_false_iff_ne.mpr c32
   have c32b1:((l0_2.length:Int) != 1) = true:=bne_iff_ne.mpr c32
   obtain rfl:=Option.some.inj H
   go_enter Try.func43,Try.ntmps43
   go_wp2_with (first | ((with_reducible refine gate_dst (N:=1) rfl ?_);refine box_event ?hg (N:=1) ?hd (cs:=#[.int .i64 a0_0,.int .i64 a0_1,.slice A0_2 l0_2.length c0_2]) (t:=29) ?hr ?_;(case hd=>rfl);(case hg=>rfl);(case hr=>first | (go_simp;done) | (go_simp;rfl));intro Za hg w37 hbox hb;have Zb:=aQ (hbox);have Zd:=aQ ((by rw [hg];exact (below_size (by repeat (first | (with_reducible first | exact HB.out | apply below_alloc | apply pw_below_drewN | apply below_drew1) | exact HB.out))):w.heap.size ≤ Za));have Zc:=aQ ((by rw [hg];exact (below_size (by repeat (first | (with_reducible first | exact HB.out | apply below_alloc | apply pw_below_drewN | apply below_drew1) | exact HB.out))):w.heap.size ≤ Za));replace HB:=aQ (below_step (by repeat (first | (with_reducible first | exact HB.out | apply below_alloc | apply pw_below_drewN | apply below_drew1) | exact HB.out)) hb);clear hb hbox hg;obtain ⟨Yf,Yg,Yh,Yi,Yj,Yk⟩:=cz3 Zb.out))
   go_ret
   exact ⟨rfl,by repeat (first | (with_reducible first | exact HB.out | apply below_alloc | apply pw_below_drewN | apply below_drew1 | refine below_set ?_ Zc.out) | exact HB.out)⟩
  rw [if_pos c32] at H
  have c32b0:((l0_2.length:Int) == 1) = true:=beq_iff_eq.mpr c32
  have c32b1:((l0_2.length:Int) != 1) = false:=bne_eq_false_iff_eq.mpr c32
  clear c32
  obtain ⟨t158,A33,H⟩:=bQ H
  replace H:(some (!t158)) = some r:=H
  obtain rfl:=Option.some.inj H
  go_enter Try.func43,Try.ntmps43
  go_wp2_with (first | ((with_reducible refine gate_dst (N:=1) rfl ?_);refine box_event ?hg (N:=1) ?hd (cs:=#[.int .i64 a0_0,.int .i64 a0_1,.slice A0_2 l0_2.length c0_2]) (t:=29) ?hr ?_;(case hd=>rfl);(case hg=>rfl);(case hr=>first | (go_simp;done) | (go_simp;rfl));intro Za hg w34 hbox hb;have Zb:=aQ (hbox);have Zd:=aQ ((by rw [hg];exact (below_size (by repeat (first | (with_reducible first | exact HB.out | apply below_alloc | apply pw_below_drewN | apply below_drew1) | exact HB.out))):w.heap.size ≤ Za));have Zc:=aQ ((by rw [hg];exact (below_size (by repeat (first | (with_reducible first | exact HB.out | apply below_alloc | apply pw_below_drewN | apply below_drew1) | exact HB.out))):w.heap.size ≤ Za));replace HB:=aQ (below_step (by repeat (first | (with_reducible first | exact HB.out | apply below_alloc | apply pw_below_drewN | apply below_drew1) | exact HB.out)) hb);clear hb hbox hg;obtain ⟨Yl,Ym,Yn,Yo,Yp,Yq⟩:=cz3 Zb.out) | (go_at_call 59;(with_reducible refine (ihS k (Nat.le_refl _) _ _ l0_2 t158 _ ?Ze ?Zf A33.out).mono ?_);(case Ze=>repeat (first | exact (Kd.C_below Zg.out HB.out) | (with_reducible refine Kd.C_alloc ?_ _) | (with_reducible refine Kd.C_drewN ?_ _) | (with_reducible refine Kd.C_drew ?_)));(case Zf=>exact Zh.out);rintro e w36 ⟨rfl,hb⟩;replace Zb:=aQ (blk_below (g:=Za) (o:=.cells #[.int .i64 a0_0,.int .i64 a0_1,.slice A0_2 l0_2.length c0_2] 29 (0,0)) (by (with_reducible repeat (first | refine blk_drewN ?_ _ | refine blk_drew ?_ | refine blk_alloc ?_ _));exact Zb.out) hb);replace HB:=aQ (below_step (by repeat (first | (with_reducible first | exact HB.out | apply below_alloc | apply pw_below_drewN | apply below_drew1 | refine below_set ?_ Zc.out) | exact HB.out)) hb);(try clear hb)))
  go_ret
  exact ⟨rfl,by repeat (first | (with_reducible first | exact HB.out | apply below_alloc | apply pw_below_drewN | apply below_drew1 | refine below_set ?_ Zc.out) | exact HB.out)⟩
 rw [if_neg c25] at H
 have c25b0:(a0_0 == 2) = false:=beq_eq_false_iff_ne.mpr c25
 have c25b1:(a0_0 != 2) = true:=bne_iff_ne.mpr c25
 have Zi:=aQ H
 clear H
 go_enter Try.func43,Try.ntmps43
 go_upto_if 27 with (first | ((with_reducible refine gate_dst (N:=1) rfl ?_);refine box_event ?hg (N:=1) ?hd (cs:=#[.int .i64 a0_0,.int .i64 a0_1,.slice A0_2 l0_2.length c0_2]) (t:=29) ?hr ?_;(case hd=>rfl);(case hg=>rfl);(case hr=>first | (go_simp;done) | (go_simp;rfl));intro Za hg w40 hbox hb;have Zb:=aQ (hbox);have Zd:=aQ ((by rw [hg];exact (below_size (by repeat (first | (with_reducible first | exact HB.out | apply below_alloc | apply pw_below_drewN | apply below_drew1) | exact HB.out))):w.heap.size ≤ Za));have Zc:=aQ ((by rw [hg];exact (below_size (by repeat (first | (with_reducible first | exact HB.out | apply below_alloc | apply pw_below_drewN | apply below_drew1) | exact HB.out))):w.heap.size ≤ Za));replace HB:=aQ (below_step (by repeat (first | (with_reducible first | exact HB.out | apply below_alloc | apply pw_below_drewN | apply below_drew1) | exact HB.out)) hb);clear hb hbox hg;obtain ⟨Zj,Zk,Zl,Zm,Zn,Zo⟩:=cz3 Zb.out))
 (try simp only [Act.put,List.setIfInBounds_toArray,List.set_cons_zero,List.set_cons_succ])
 go_cut [27] (fun v27 wc=>∃ (kq:Nat) (x27_38:Bool),v27 = .bool x27_38∧Aside0 (impl_clockShape.j0 kq x27_38 a0_0 a0_1 l0_2 = some r)∧Aside0 (kq ≤ k)∧Aside0 (wc.heap[Za]? = some (.cells #[.int .i64 a0_0,.int .i64 a0_1,(.slice A0_2 l0_2.length c0_2)] 29 (0,0)))∧Aside0 (Below w.heap.size w wc))
 case first =>
  have H:=Zi.out
  clear Zi
  by_cases c42:a0_0 = 3;rotate_left
  ·rw [if_neg c42] at H
   have c42b0:(a0_0 == 3) = false:=beq_eq_false_iff_ne.mpr c42
   have c42b1:(a0_0 != 3) = true:=bne_iff_ne.mpr c42
   (first | rw [c42b0] | (simp only [i64_w,i32_w];rw [c42b0]) | skip)
   have H':=aQ H
   clear H
   go_wp2
   go_meet
   case rel=>exact ⟨_,((a0_0 == 4)),rfl,H',⟨by first | omega | exact Nat.le_refl _⟩,⟨by (with_reducible repeat (first | refine blk_drewN ?_ _ | refine blk_drew ?_ | refine blk_alloc ?_ _));exact Zb.out⟩,⟨by repeat (first | (with_reducible first | exact HB.out | apply below_alloc | apply pw_below_drewN | apply below_drew1 | refine below_set ?_ Zc.out) | exact HB.out)⟩⟩
  rw [if_pos c42] at H
  have c42b0:(a0_0 == 3) = true:=beq_iff_eq.mpr c42
  have c42b1:(a0_0 != 3) = false:=bne_eq_false_iff_eq.mpr c42
  clear c42
  (first | rw [c42b0] | (simp only [i64_w,i32_w];rw [c42b0]) | skip)
  have H':=aQ H
  clear H
  go_wp2
  go_meet
  case rel=>exact ⟨_,((a0_0 == 3)),eS,H',⟨by first | omega | exact Nat.le_refl _⟩,⟨by (with_reducible repeat (first | refine blk_drewN ?_ _ | refine blk_drew ?_ | refine blk_alloc ?_ _));exact Zb.out⟩,⟨by repeat (first | (with_reducible first | exact HB.out | apply below_alloc | apply pw_below_drewN | apply below_drew1 | refine below_set ?_ Zc.out) | exact HB.out)⟩⟩
 case rest =>
  clear Zi
  try clear c2
  try clear c2b0
  try clear c2b1
  try clear c13
  try clear c13b0
  try clear c13b1
  try clear c25
  try clear c25b0
  try clear c25b1
  try clear Zj
  try clear Zk
  try clear Zl
  try clear Zm
  try clear Zn
  try clear Zo
  obtain ⟨kq,x27_38,rfl,HA,HJ38,Zb,HB⟩:=hcut
  cases kq with
  | zero=>exact absurd HA.out (by simp [impl_clockShape.j0])
  | succ kj38 =>
   have H:=HA.out
   clear HA
   simp only [impl_clockShape.j0] at H
   by_cases c43:x27_38 = true
   ·subst c43
    have H1:(if a0_1 = 0 then (if (l0_2.length:Int) = 2 then ((impl_clockAny.f kj38 l0_2).bind fun t159=>(some (!t159))) else (some false)) else (some false)) = some r:=by rw [if_pos rfl] at H;exact H
    clear H
    have H:=H1
    clear H1
    by_cases c44:a0_1 = 0;rotate_left
    ·rw [if_neg c44] at H
     have c44b0:(a0_1 == 0) = false:=beq_eq_false_iff_ne.mpr c44
     have c44b1:(a0_1 != 0) = true:=bne_iff_ne.mpr c44
     obtain rfl:=Option.some.inj H
     obtain ⟨Yr,Ys,Yt,Yu,Yv,Yw⟩:=cz3 Zb.out
     go_wp2
     go_ret
     exact ⟨rfl,by repeat (first | (with_reducible first | exact HB.out | apply below_alloc | apply pw_below_drewN | apply below_drew1 | refine below_set ?_ Zc.out) | exact HB.out)⟩
    rw [if_pos c44] at H
    have c44b0:(a0_1 == 0) = true:=beq_iff_eq.mpr c44
    have c44b1:(a0_1 != 0) = false:=bne_eq_false_iff_eq.mpr c44
    clear c44
    by_cases c45:(l0_2.length:Int) = 2;rotate_left
    ·rw [if_neg c45] at H
     have c45b0:((l0_2.length:Int) == 2) = false:=beq_eq_false_iff_ne.mpr c45
     have c45b1:((l0_2.length:Int) != 2) = true:=bne_iff_ne.mpr c45
     obtain rfl:=Option.some.inj H
     obtain ⟨Yx,Yy,Yz,YA,YB,YC⟩:=cz3 Zb.out
     go_wp2
     go_ret
     exact ⟨rfl,by repeat (first | (with_reducible first | exact HB.out | apply below_alloc | apply pw_below_drewN | apply below_drew1 | refine below_set ?_ Zc.out) | exact HB.out)⟩
    rw [if_pos c45] at H
    have c45b0:((l0_2.length:Int) == 2) = true:=beq_iff_eq.mpr c45
    have c45b1:((l0_2.length:Int) != 2) = false:=bne_eq_false_iff_eq.mpr c45
    clear c45
    obtain ⟨t159,A46,H⟩:=bQ H
    replace H:(some (!t159)) = some r:=H
    obtain rfl:=Option.some.inj H
    obtain ⟨YD,YE,YF,YG,YH,YI⟩:=cz3 Zb.out
    go_wp2_with (first | (go_at_call 59;(with_reducible refine (ihS kj38 (by have:=HJ38.out;omega) _ _ l0_2 t159 _ ?Ze ?Zf A46.out).mono ?_);(case Ze=>repeat (first | exact (Kd.C_below Zg.out HB.out) | (with_reducible refine Kd.C_alloc ?_ _) | (with_reducible refine Kd.C_drewN ?_ _) | (with_reducible refine Kd.C_drew ?_)));(case Zf=>exact Zh.out);rintro e w48 ⟨rfl,hb⟩;replace Zb:=aQ (blk_below (g:=Za) (o:=.cells #[.int .i64 a0_0,.int .i64 a0_1,.slice A0_2 l0_2.length c0_2] 29 (0,0)) (by (with_reducible repeat (first | refine blk_drewN ?_ _ | refine blk_drew ?_ | refine blk_alloc ?_ _));exact Zb.out) hb);replace HB:=aQ (below_step (by repeat (first | (with_reducible first | exact HB.out | apply below_alloc | apply pw_below_drewN | apply below_drew1 | refine below_set ?_ Zc.out) | exact HB.out)) hb);(try clear hb)))
    go_ret
    exact ⟨rfl,by repeat (first | (with_reducible first | exact HB.out | apply below_alloc | apply pw_below_drewN | apply below_drew1 | refine below_set ?_ Zc.out) | exact HB.out)⟩
   ·replace c43:=Bool.eq_false_iff.mpr c43
    subst c43
    have H1:(some false) = some r:=by rw [if_neg (show ¬ (false = true) by decide)] at H;exact H
    clear H
    have H:=H1
    clear H1
    obtain rfl:=Option.some.inj H
    go_wp2
    go_ret
    exact ⟨rfl,by repeat (first | (with_reducible first | exact HB.out | apply below_alloc | apply pw_below_drewN | apply below_drew1 | refine below_set ?_ Zc.out) | exact HB.out)⟩
theorem impl_clockShape.calls_if (k:Nat) (ihS:∀ j_,j_ + 1 ≤ k → impl_clockAny.Con j_) (a0_0:Int) (a0_1:Int) (A0_2:Option Addr) (c0_2:Nat) (l0_2:List (S29)) (r:Bool) (w:World) (hr0_2:Kd.C k29 w A0_2 l0_2.length l0_2) (hc0_2:l0_2.length ≤ c0_2) (h:impl_clockShape.f k a0_0 a0_1 l0_2 = some r) :
  Calls Try.prog 43 #[.agg #[.int .i64 a0_0,.int .i64 a0_1,.slice A0_2 l0_2.length c0_2]] w fun e w'=>e = .returned (.bool r)∧Below w.heap.size w w':=by
 cases k with
 | zero=>exact absurd h (by simp [impl_clockShape.f])
 | succ k =>
  simp only [impl_clockShape.f] at h
  exact impl_clockShape.calls_of k (fun j_ hj_=>ihS j_ (by omega)) a0_0 a0_1 A0_2 c0_2 l0_2 r w hr0_2 hc0_2 h
set_option maxHeartbeats 8000000 in
set_option maxRecDepth 100000 in
theorem clockNot (k:Nat) (ihS:∀ j_,j_ + 1 ≤ k → impl_clockAny.Con j_) (w:World):Pred29 60 #[] (fun x=>(impl_clockShape.f k x.f0 x.f1 x.f2).bind fun t=>some (!t)) w:=by
 intro x A c b W hB hC hc hp
 obtain ⟨t,ht,hb⟩:=Option.bind_eq_some_iff.1 hp
 obtain rfl:=Option.some.inj hb
 have hcall:=fun W' (h:Below W.heap.size W W')=>impl_clockShape.calls_if k ihS x.f0 x.f1 A c x.f2 t W' (Kd.C_below hC h) hc ht
 obtain ⟨a0,a1,l2⟩:=x
 dsimp only at hcall ⊢
 clear hC hc hp ht ihS hB
 have HB:=aQ (Below.refl W.heap.size W)
 have hu29:=Try.underlying29
 show Calls Try.prog 60 #[.agg #[.int .i64 a0,.int .i64 a1,.slice A l2.length c]] W _
 go_enter Try.func60,Try.ntmps60
 go_wp2_with (first | ((with_reducible refine gate_dst (N:=1) rfl ?_);refine box_event ?hg (N:=1) ?hd (cs:=#[.int .i64 a0,.int .i64 a1,.slice A l2.length c]) (t:=29) ?hr ?_;(case hd=>rfl);(case hg=>rfl);(case hr=>first | (go_simp;done) | (go_simp;rfl));intro gb hg w5 hbox hb;have n0_:=aQ (below_step HB.out hb);have BK:=aQ hbox;clear HB;have HB:=n0_;clear n0_ hb hbox hg;have Za:w5.cell? ⟨gb,0,none⟩ = some (.int .i64 a0):=(blk_cell BK.out 0).trans rfl;have Zb:w5.cell? ⟨gb,1,none⟩ = some (.int .i64 a1):=(blk_cell BK.out 1).trans rfl;have Zc:w5.cell? ⟨gb,2,none⟩ = some (.slice A l2.length c):=(blk_cell BK.out 2).trans rfl) | (go_at_call 43;(with_reducible refine (hcall _ HB.out).mono ?_);rintro e w' ⟨rfl,hb'⟩))
 go_ret
 exact ⟨rfl,below_step HB.out hb'⟩
theorem impl_clockAny.calls (k:Nat):impl_clockAny.Con k:=by
 induction k using Nat.strongRecOn with
 | _ k ih =>
 intro A0 c0 l0 r w hr0 hc0 h
 cases k with
 | zero=>exact absurd h (by simp [impl_clockAny.f])
 | succ k =>
  simp only [impl_clockAny.f] at h
  exact any29 60 #[] (fun args w=>by rfl) _ A0 c0 l0 w (clockNot k (fun j_ hj_=>ih j_ (by omega)) w) hr0 hc0 r h
theorem impl_clockShape.calls (k:Nat) (a0_0:Int) (a0_1:Int) (A0_2:Option Addr) (c0_2:Nat) (l0_2:List (S29)) (r:Bool) (w:World) (hr0_2:Kd.C k29 w A0_2 l0_2.length l0_2) (hc0_2:l0_2.length ≤ c0_2) (h:impl_clockShape.f k a0_0 a0_1 l0_2 = some r) :
  Calls Try.prog 43 #[.agg #[.int .i64 a0_0,.int .i64 a0_1,.slice A0_2 l0_2.length c0_2]] w fun e w'=>e = .returned (.bool r)∧Below w.heap.size w w' :=
 impl_clockShape.calls_if k (fun j_ _=>impl_clockAny.calls j_) a0_0 a0_1 A0_2 c0_2 l0_2 r w hr0_2 hc0_2 h
end Go.Proofs.Ytnkgcjdlfenepaa.P
