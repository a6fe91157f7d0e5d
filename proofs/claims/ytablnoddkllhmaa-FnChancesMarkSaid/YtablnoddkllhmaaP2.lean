/- What the Go functions that the laws reach compute, and that their calls come to just that: told by a program of this session (aprint.py). No condition. -/
import Derived.Test.YtablnoddkllhmaaP0
import Derived.Test.YtablnoddkllhmaaP1
import Derived.Test.YtablnoddkllhmaaHClasses
import Derived.Test.YtablnoddkllhmaaHDraw
namespace Go.Proofs.Ytablnoddkllhmaa.P
open Go.RowKit Go.Proofs.YtablnoddkllhmaaW.PrintWords Go.Proofs.YtablnoddkllhmaaW.PrintLast Go.Proofs.YtablnoddkllhmaaW.PrintMore
attribute [local go_sem] max2_int min2_int max_two min_two max_three min_three max_four min_four
set_option linter.unusedVariables false
set_option linter.unusedSimpArgs false
mutual
def spec_ChancesMark.j0:Nat → Int → Int → Int → Bool → List Int → List (List Int) → Option (List Int × Bool)
 | 0,_,_,_,_,_,_=>none
 | k + 1,x1,x2,x3,x24,x460000,x460001=>if x24 = true then (some (([]:List Int),false)) else (spec_ChancesMark.l0 k x1 x2 x3 (([]:List Int)) 0 x460000 x460001)
def spec_ChancesMark.l0:Nat → Int → Int → Int → List Int → Int → List Int → List (List Int) → Option (List Int × Bool)
 | 0,_,_,_,_,_,_,_=>none
 | k + 1,x1,x2,x3,x10,x11,x460000,x460001=>if x11 ≤ x2 then ((spec_l18After.f k x460000 x460001 x1 x11).bind fun t465=>(spec_ChancesMark.l1 k x1 x2 x3 x10 x11 t465 0 0 x460000 x460001)) else (some (x10,true))
def spec_ChancesMark.l1:Nat → Int → Int → Int → List Int → Int → List Int → Int → Int → List Int → List (List Int) → Option (List Int × Bool)
 | 0,_,_,_,_,_,_,_,_,_,_=>none
 | k + 1,x1,x2,x3,x10,x11,x12,x13,x14,x460000,x460001=>if x14 < (x12.length:Int) then (if 0 ≤ x14 then (if x14 < (x460000.length:Int) then (if (rd x460000 x14) = x3 then (spec_ChancesMark.l1 k x1 x2 x3 x10 x11 x12 (wrap64 (x13 + (rd x12 x14))) (wrap64 (x14 + 1)) x460000 x460001) else (spec_ChancesMark.l1 k x1 x2 x3 x10 x11 x12 x13 (wrap64 (x14 + 1)) x460000 x460001)) else (none)) else (none)) else (if x10.length < 17592186044416 then (spec_ChancesMark.l0 k x1 x2 x3 (x10 ++ [x13]) (wrap64 (x11 + 1)) x460000 x460001) else (none))
end
def spec_ChancesMark.f (k:Nat) (l0_0:List Int) (l0_1:List (List Int)) (a1:Int) (a2:Int) (a3:Int):Option (List Int × Bool):=(spec_l18Asked.f k l0_0 l0_1 a1 a2).bind fun t460=>(if t460 = true then ((spec_l6In.f a3 0 9).bind fun t461=>(spec_ChancesMark.j0 k a1 a2 a3 (!t461) l0_0 l0_1)) else (spec_ChancesMark.j0 k a1 a2 a3 true l0_0 l0_1))
theorem spec_ChancesMark.mono_l:∀ k,(∀ y0 y1 y2 y3 y4 y5,LeO (spec_ChancesMark.j0 k y0 y1 y2 y3 y4 y5) (spec_ChancesMark.j0 (k + 1) y0 y1 y2 y3 y4 y5))∧(∀ y0 y1 y2 y3 y4 y5 y6,LeO (spec_ChancesMark.l0 k y0 y1 y2 y3 y4 y5 y6) (spec_ChancesMark.l0 (k + 1) y0 y1 y2 y3 y4 y5 y6))∧(∀ y0 y1 y2 y3 y4 y5 y6 y7 y8 y9,LeO (spec_ChancesMark.l1 k y0 y1 y2 y3 y4 y5 y6 y7 y8 y9) (spec_ChancesMark.l1 (k + 1) y0 y1 y2 y3 y4 y5 y6 y7 y8 y9))
 | 0=>⟨fun _ _ _ _ _ _ r h=>by simp [spec_ChancesMark.j0] at h,fun _ _ _ _ _ _ _ r h=>by simp [spec_ChancesMark.l0] at h,fun _ _ _ _ _ _ _ _ _ _ r h=>by simp [spec_ChancesMark.l1] at h⟩
 | k + 1=>by
  obtain ⟨ih0,ih1,ih2⟩:=spec_ChancesMark.mono_l k
  refine ⟨?_,?_,?_⟩
  ·intro y0 y1 y2 y3 y4 y5
   unfold spec_ChancesMark.j0
   repeat' first
   | (with_reducible exact ih0 _ _ _ _ _ _)
   | (with_reducible exact ih1 _ _ _ _ _ _ _)
   | (with_reducible exact ih2 _ _ _ _ _ _ _ _ _ _)
   | (with_reducible exact spec_l18After.mono _ _ _ _ _)
   | (with_reducible exact spec_l18Asked.mono _ _ _ _ _)
   | (with_reducible exact LeO.refl _)
   | (with_reducible exact LeO.none _)
   | (with_reducible refine LeO.ite ?_ ?_)
   | (with_reducible refine LeO.bind ?_ (fun _=>?_))
   | exact ih0 _ _ _ _ _ _
   | exact ih1 _ _ _ _ _ _ _
   | exact ih2 _ _ _ _ _ _ _ _ _ _
   | exact spec_l18After.mono _ _ _ _ _
   | exact spec_l18Asked.mono _ _ _ _ _
   | exact LeO.none _
   | refine LeO.ite ?_ ?_
   | refine LeO.bind ?_ (fun _=>?_)
  ·intro y0 y1 y2 y3 y4 y5 y6
   unfold spec_ChancesMark.l0
   repeat' first
   | (with_reducible exact ih0 _ _ _ _ _ _)
   | (with_reducible exact ih1 _ _ _ _ _ _ _)
   | (with_reducible exact ih2 _ _ _ _ _ _ _ _ _ _)
   | (with_reducible exact spec_l18After.mono _ _ _ _ _)
   | (with_reducible exact spec_l18Asked.mono _ _ _ _ _)
   | (with_reducible exact LeO.refl _)
   | (with_reducible exact LeO.none _)
   | (with_reducible refine LeO.ite ?_ ?_)
   | (with_reducible refine LeO.bind ?_ (fun _=>?_))
   | exact ih0 _ _ _ _ _ _
   | exact ih1 _ _ _ _ _ _ _
   | exact ih2 _ _ _ _ _ _ _ _ _ _
   | exact spec_l18After.mono _ _ _ _ _
   | exact spec_l18Asked.mono _ _ _ _ _
   | exact LeO.none _
   | refine LeO.ite ?_ ?_
   | refine LeO.bind ?_ (fun _=>?_)
  ·intro y0 y1 y2 y3 y4 y5 y6 y7 y8 y9
   unfold spec_ChancesMark.l1
   repeat' first
   | (with_reducible exact ih0 _ _ _ _ _ _)
   | (with_reducible exact ih1 _ _ _ _ _ _ _)
   | (with_reducible exact ih2 _ _ _ _ _ _ _ _ _ _)
   | (with_reducible exact spec_l18After.mono _ _ _ _ _)
   | (with_reducible exact spec_l18Asked.mono _ _ _ _ _)
   | (with_reducible exact LeO.refl _)
   | (with_reducible exact LeO.none _)
   | (with_reducible refine LeO.ite ?_ ?_)
   | (with_reducible refine LeO.bind ?_ (fun _=>?_))
   | exact ih0 _ _ _ _ _ _
   | exact ih1 _ _ _ _ _ _ _
   | exact ih2 _ _ _ _ _ _ _ _ _ _
   | exact spec_l18After.mono _ _ _ _ _
   | exact spec_l18Asked.mono _ _ _ _ _
   | exact LeO.none _
   | refine LeO.ite ?_ ?_
   | refine LeO.bind ?_ (fun _=>?_)
theorem spec_ChancesMark.mono:∀ a0 a1 a2 a3 a4 k,LeO (spec_ChancesMark.f k a0 a1 a2 a3 a4) (spec_ChancesMark.f (k + 1) a0 a1 a2 a3 a4):=by
 intro a0 a1 a2 a3 a4 k
 obtain ⟨ih0,ih1,ih2⟩:=spec_ChancesMark.mono_l k
 unfold spec_ChancesMark.f
 repeat' first
   | (with_reducible exact ih0 _ _ _ _ _ _)
   | (with_reducible exact ih1 _ _ _ _ _ _ _)
   | (with_reducible exact ih2 _ _ _ _ _ _ _ _ _ _)
   | (with_reducible exact spec_l18After.mono _ _ _ _ _)
   | (with_reducible exact spec_l18Asked.mono _ _ _ _ _)
   | (with_reducible exact LeO.refl _)
   | (with_reducible exact LeO.none _)
   | (with_reducible refine LeO.ite ?_ ?_)
   | (with_reducible refine LeO.bind ?_ (fun _=>?_))
   | exact ih0 _ _ _ _ _ _
   | exact ih1 _ _ _ _ _ _ _
   | exact ih2 _ _ _ _ _ _ _ _ _ _
   | exact spec_l18After.mono _ _ _ _ _
   | exact spec_l18Asked.mono _ _ _ _ _
   | exact LeO.none _
   | refine LeO.ite ?_ ?_
   | refine LeO.bind ?_ (fun _=>?_)
set_option maxHeartbeats 8000000 in
set_option maxRecDepth 100000 in
theorem spec_ChancesMark.calls (k:Nat) (A0_0:Option Addr) (c0_0:Nat) (l0_0:List Int) (A0_1:Option Addr) (c0_1:Nat) (l0_1:List (List Int)) (a1:Int) (a2:Int) (a3:Int) (r1:List Int) (r2:Bool) (w:World) (hr0_0:Kd.C (Kd.int .i64) w A0_0 l0_0.length l0_0) (hc0_0:l0_0.length ≤ c0_0) (hr0_1:Kd.C (Kd.slice 3 (Kd.int .i64)) w A0_1 l0_1.length l0_1) (hc0_1:l0_1.length ≤ c0_1) (h:spec_ChancesMark.f k l0_0 l0_1 a1 a2 a3 = some (r1,r2)) :
  Calls Try.prog 31 #[.agg #[.slice A0_0 l0_0.length c0_0,.slice A0_1 l0_1.length c0_1],.int .i64 a1,.int .i64 a2,.int .i64 a3] w fun e w'=>∃ v0_:Value,e = .returned (.tuple #[v0_,.bool r2])∧Kd.R (Kd.int .i64) 3 w' w.heap.size (fun _=>True) v0_ r1∧Below w.heap.size w w':=by
 have hu28:=Try.underlying28
 have HR0_0:=Aside0.mk hr0_0
 have HC0_0:=Aside0.mk hc0_0
 clear hr0_0 hc0_0
 have HR0_1:=Aside0.mk hr0_1
 have HC0_1:=Aside0.mk hc0_1
 clear hr0_1 hc0_1
 have HB:=Aside0.mk (Below.refl w.heap.size w)
 have H:((spec_l18Asked.f k l0_0 l0_1 a1 a2).bind fun t460=>(if t460 = true then ((spec_l6In.f a3 0 9).bind fun t461=>(spec_ChancesMark.j0 k a1 a2 a3 (!t461) l0_0 l0_1)) else (spec_ChancesMark.j0 k a1 a2 a3 true l0_0 l0_1))) = some (r1,r2):=h
 clear h
 have HC5:=Aside0.mk H
 clear H
 go_enter Try.func31,Try.ntmps31
 go_upto_region 1 with (first | ((with_reducible refine gate_dst (N:=4) rfl ?_);refine box_event ?hg (N:=4) ?hd (cs:=#[.slice A0_0 l0_0.length c0_0,.slice A0_1 l0_1.length c0_1]) (t:=28) ?hr ?_;(case hd=>rfl);(case hg=>rfl);(case hr=>first | (go_simp;done) | (go_simp;rfl));intro gb459 hg w6 hbox hb;have n0_:=Aside0.mk (below_step (by exact HB.out) hb);have n1_:=Aside0.mk (hbox);have n2_:=Aside0.mk ((by rw [hg];exact (below_size (by exact HB.out)):w.heap.size ≤ gb459));have n3_:=Aside0.mk ((by rw [hg];exact (below_size (by exact HB.out)):w.heap.size ≤ gb459));clear HB;have HB:=n0_;have BK459:=n1_;have GW459:=n2_;have GE459:=n3_;clear n0_ n1_ n2_ n3_;clear hb hbox hg))
 (try simp only [Act.put,List.setIfInBounds_toArray,List.set_cons_zero,List.set_cons_succ])
 go_cut [24] (fun v24 wc=>∃ (kq:Nat) (x24_4:Bool),v24 = .bool x24_4∧Aside0 (spec_ChancesMark.j0 kq a1 a2 a3 x24_4 l0_0 l0_1 = some (r1,r2))∧Aside0 (kq ≤ k)∧Aside0 (wc.heap[gb459]? = some (.cells #[(.slice A0_0 l0_0.length c0_0),(.slice A0_1 l0_1.length c0_1)] 28 (0,0)))∧Aside0 (Below w.heap.size w wc))
 case first =>
  have H:=HC5.out
  clear HC5
  replace H:=Option.bind_eq_some_iff.mp H
  obtain ⟨t460,A70,H⟩:=H
  replace H:(if t460 = true then ((spec_l6In.f a3 0 9).bind fun t461=>(spec_ChancesMark.j0 k a1 a2 a3 (!t461) l0_0 l0_1)) else (spec_ChancesMark.j0 k a1 a2 a3 true l0_0 l0_1)) = some (r1,r2):=H
  have A7:=Aside0.mk A70
  clear A70
  by_cases c8:t460 = true
  ·subst c8
   have H1:((spec_l6In.f a3 0 9).bind fun t461=>(spec_ChancesMark.j0 k a1 a2 a3 (!t461) l0_0 l0_1)) = some (r1,r2):=by rw [if_pos rfl] at H;exact H
   clear H
   have H:=H1
   clear H1
   replace H:=Option.bind_eq_some_iff.mp H
   obtain ⟨t461,A90,H⟩:=H
   replace H:(spec_ChancesMark.j0 k a1 a2 a3 (!t461) l0_0 l0_1) = some (r1,r2):=H
   have A9:=Aside0.mk A90
   clear A90
   have H':=Aside0.mk H
   clear H
   have hcz10_0:w6.cell? ⟨gb459,0,none⟩ = some (.slice A0_0 l0_0.length c0_0):=(blk_cell BK459.out 0).trans rfl
   have hcz10_1:w6.cell? ⟨gb459,1,none⟩ = some (.slice A0_1 l0_1.length c0_1):=(blk_cell BK459.out 1).trans rfl
   have hfz10_0:=blk_frozen BK459.out 0
   have hfz10_1:=blk_frozen BK459.out 1
   go_wp2_with (first | ((with_reducible refine gate_callee (f:=53) rfl ?_);refine goesL_ (some 18) rfl rfl Try.func53 (by kernel_rfl) rfl #[.agg #[.slice A0_0 l0_0.length c0_0,.slice A0_1 l0_1.length c0_1],.int .i64 a1,.int .i64 a2] rfl (by (try simp only [List.map_toArray,List.map_cons,List.map_nil]);first | done | rfl | (simp only [List.length_drop,List.length_take];rfl)) ?_;(with_reducible refine (spec_l18Asked.calls k _ _ l0_0 _ _ l0_1 a1 a2 true _ ?side1 ?side2 ?side3 ?side4 A7.out).mono ?_);(case side1=>repeat (first | exact (Kd.C_below HR0_0.out HB.out) | (with_reducible refine Kd.C_alloc ?_ _) | (with_reducible refine Kd.C_drewN ?_ _) | (with_reducible refine Kd.C_drew ?_)));(case side2=>exact HC0_0.out);(case side3=>repeat (first | exact (Kd.C_below HR0_1.out HB.out) | (with_reducible refine Kd.C_alloc ?_ _) | (with_reducible refine Kd.C_drewN ?_ _) | (with_reducible refine Kd.C_drew ?_)));(case side4=>exact HC0_1.out);rintro e w11 ⟨rfl,hb⟩;refine ⟨_,rfl,?_⟩;have n0_:=Aside0.mk (blk_below (g:=gb459) (o:=.cells #[.slice A0_0 l0_0.length c0_0,.slice A0_1 l0_1.length c0_1] 28 (0,0)) (by (with_reducible repeat (first | refine blk_drewN ?_ _ | refine blk_drew ?_ | refine blk_alloc ?_ _));exact BK459.out) hb);have n1_:=Aside0.mk (below_step (by repeat (with_reducible first | exact HB.out | apply below_alloc | apply pw_below_drewN | apply below_drew1 | refine below_set ?_ GE459.out)) hb);clear BK459;clear HB;have BK459:=n0_;have HB:=n1_;clear n0_ n1_;(try clear hb);(try clear hb2);(try clear hk);(try clear hi)) | (go_at_call 40;(with_reducible refine (spec_l6In.calls a3 0 9 t461 _ A9.out).mono ?_);rintro e w' ⟨rfl,⟨nd,rfl⟩⟩))
   go_meet
   case rel=>exact ⟨_,(!t461),(by first | rfl | (simp;done) | (simp [*];done)),H',⟨by first | omega | exact Nat.le_refl _⟩,⟨by (with_reducible repeat (first | refine blk_drewN ?_ _ | refine blk_drew ?_ | refine blk_alloc ?_ _));exact BK459.out⟩,⟨by repeat (with_reducible first | exact HB.out | apply below_alloc | apply pw_below_drewN | apply below_drew1 | refine below_set ?_ GE459.out)⟩⟩
  ·replace c8:=Bool.eq_false_iff.mpr c8
   subst c8
   have H1:(spec_ChancesMark.j0 k a1 a2 a3 true l0_0 l0_1) = some (r1,r2):=by rw [if_neg (show ¬ (false = true) by decide)] at H;exact H
   clear H
   have H:=H1
   clear H1
   have H':=Aside0.mk H
   clear H
   have hcz12_0:w6.cell? ⟨gb459,0,none⟩ = some (.slice A0_0 l0_0.length c0_0):=(blk_cell BK459.out 0).trans rfl
   have hcz12_1:w6.cell? ⟨gb459,1,none⟩ = some (.slice A0_1 l0_1.length c0_1):=(blk_cell BK459.out 1).trans rfl
   have hfz12_0:=blk_frozen BK459.out 0
   have hfz12_1:=blk_frozen BK459.out 1
   go_wp2_with (first | ((with_reducible refine gate_callee (f:=53) rfl ?_);refine goesL_ (some 18) rfl rfl Try.func53 (by kernel_rfl) rfl #[.agg #[.slice A0_0 l0_0.length c0_0,.slice A0_1 l0_1.length c0_1],.int .i64 a1,.int .i64 a2] rfl (by (try simp only [List.map_toArray,List.map_cons,List.map_nil]);first | done | rfl | (simp only [List.length_drop,List.length_take];rfl)) ?_;(with_reducible refine (spec_l18Asked.calls k _ _ l0_0 _ _ l0_1 a1 a2 false _ ?side1 ?side2 ?side3 ?side4 A7.out).mono ?_);(case side1=>repeat (first | exact (Kd.C_below HR0_0.out HB.out) | (with_reducible refine Kd.C_alloc ?_ _) | (with_reducible refine Kd.C_drewN ?_ _) | (with_reducible refine Kd.C_drew ?_)));(case side2=>exact HC0_0.out);(case side3=>repeat (first | exact (Kd.C_below HR0_1.out HB.out) | (with_reducible refine Kd.C_alloc ?_ _) | (with_reducible refine Kd.C_drewN ?_ _) | (with_reducible refine Kd.C_drew ?_)));(case side4=>exact HC0_1.out);rintro e w13 ⟨rfl,hb⟩;refine ⟨_,rfl,?_⟩;have n0_:=Aside0.mk (blk_below (g:=gb459) (o:=.cells #[.slice A0_0 l0_0.length c0_0,.slice A0_1 l0_1.length c0_1] 28 (0,0)) (by (with_reducible repeat (first | refine blk_drewN ?_ _ | refine blk_drew ?_ | refine blk_alloc ?_ _));exact BK459.out) hb);have n1_:=Aside0.mk (below_step (by repeat (with_reducible first | exact HB.out | apply below_alloc | apply pw_below_drewN | apply below_drew1 | refine below_set ?_ GE459.out)) hb);clear BK459;clear HB;have BK459:=n0_;have HB:=n1_;clear n0_ n1_;(try clear hb);(try clear hb2);(try clear hk);(try clear hi)))
   go_meet
   case rel=>exact ⟨_,(true),(by first | rfl | (simp;done) | (simp [*];done)),H',⟨by first | omega | exact Nat.le_refl _⟩,⟨by exact BK459.out⟩,⟨by exact HB.out⟩⟩
 case rest =>
  clear HC5
  try clear p2
  try clear c3
  try clear c5
  try clear c8
  try clear hcz10_0
  try clear hcz10_1
  try clear hcz12_0
  try clear hcz12_1
  try clear hfz10_0
  try clear hfz10_1
  try clear hfz12_0
  try clear hfz12_1
  obtain ⟨kq,x24_4,rfl,HA,HJ4,BK459,HB⟩:=hcut
  cases kq with
  | zero=>exact absurd HA.out (by simp [spec_ChancesMark.j0])
  | succ kj4 =>
   have H:=HA.out
   clear HA
   simp only [spec_ChancesMark.j0] at H
   by_cases c14:x24_4 = true
   ·subst c14
    have H1:(some (([]:List Int),false)) = some (r1,r2):=by rw [if_pos rfl] at H;exact H
    clear H
    have H:=H1
    clear H1
    simp only [Option.some.injEq,Prod.mk.injEq] at H
    obtain ⟨rfl,rfl⟩:=H
    go_wp2
    go_ret2
    exact ⟨_,rfl,Kd.R_nil _ _ _ _ _,by exact HB.out⟩
   ·replace c14:=Bool.eq_false_iff.mpr c14
    subst c14
    have H1:(spec_ChancesMark.l0 kj4 a1 a2 a3 (([]:List Int)) 0 l0_0 l0_1) = some (r1,r2):=by rw [if_neg (show ¬ (false = true) by decide)] at H;exact H
    clear H
    have H:=H1
    clear H1
    obtain ⟨y462,hy462⟩:∃ y_:List Int,y_ = (([]:List Int)):=⟨_,rfl⟩
    replace H:(spec_ChancesMark.l0 kj4 a1 a2 a3 y462 0 l0_0 l0_1) = some (r1,r2):=by rw [hy462];exact H
    have Ny462:=Aside0.mk hy462
    clear hy462
    have H':=Aside0.mk H
    clear H
    go_wp2_with (first | ((with_reducible refine gate_dst (N:=25) rfl ?_);refine Kd.R_lit (Kd.int .i64) _ 3 ?hg (N:=25) ?hd (xs:=([]:List Int)) (inner:=[]) (ok:=fun _=>True) (okp:=fun _=>True) ?hr ?hp (fun _ hk=>hk) trivial (Below.refl _ _) (Nat.le_refl _) (by simp) ?_;(case hd=>rfl);(case hg=>rfl);(case hr=>first | (go_simp;done) | (go_simp;rfl));(case hp=>exact (Reps.none _ _));intro v463 w15 ho16 hb hg_ hnew_;clear hg_ hnew_;(first | rw [← Ny462.out] at ho16 | (simp only [Int.reduceToNat] at ho16;rw [← Ny462.out] at ho16));have n0_:=Aside0.mk (Kd.R_lower ho16 (below_size (by exact HB.out)));have n1_:=Aside0.mk (blk_below (g:=gb459) (o:=.cells #[.slice A0_0 l0_0.length c0_0,.slice A0_1 l0_1.length c0_1] 28 (0,0)) (by exact BK459.out) hb);have n2_:=Aside0.mk (below_step (by exact HB.out) hb);clear BK459;clear HB;have HO464:=n0_;have BK459:=n1_;have HB:=n2_;clear n0_ n1_ n2_;clear hb ho16))
    go_loopg [10,11] kj4 (fun kq v10 v11 w'=>∃ (x10_2:List Int) (x11_2:Int),v11 = .int .i64 x11_2∧Aside0 (spec_ChancesMark.l0 kq a1 a2 a3 x10_2 x11_2 l0_0 l0_1 = some (r1,r2))∧Aside0 (kq ≤ kj4)∧Aside0 (Kd.R (Kd.int .i64) 3 w' w.heap.size (fun _=>True) v10 x10_2)∧Aside0 (w'.heap[gb459]? = some (.cells #[(.slice A0_0 l0_0.length c0_0),(.slice A0_1 l0_1.length c0_1)] 28 (0,0)))∧Aside0 (Below w.heap.size w w'))
    case atStart=>exact ⟨(y462),(0),(by first | rfl | (simp;done) | (simp [*];done)),H',⟨Nat.le_refl _⟩,⟨by exact HO464.out⟩,⟨by exact BK459.out⟩,⟨by exact HB.out⟩⟩
    case round =>
     clear H'
     try clear c1
     try clear p2
     try clear c3
     try clear c5
     try clear c8
     try clear c14
     try clear hcz10_0
     try clear hcz10_1
     try clear hcz12_0
     try clear hcz12_1
     try clear hfz10_0
     try clear hfz10_1
     try clear hfz12_0
     try clear hfz12_1
     try clear p2
     obtain ⟨x10_2,x11_2,rfl,HA,HK2,HO_10,BK459,HB⟩:=hrel
     cases gk with
     | zero=>exact absurd HA.out (by simp [spec_ChancesMark.l0])
     | succ k2 =>
      have H:=HA.out
      clear HA
      simp only [spec_ChancesMark.l0] at H
      by_cases c17:x11_2 ≤ a2
      ·rw [if_pos c17] at H
       have c17b0:decide (x11_2 ≤ a2) = true:=decide_eq_true c17
       clear c17
       replace H:=Option.bind_eq_some_iff.mp H
       obtain ⟨t465,A180,H⟩:=H
       replace H:(spec_ChancesMark.l1 k2 a1 a2 a3 x10_2 x11_2 t465 0 0 l0_0 l0_1) = some (r1,r2):=H
       have A18:=Aside0.mk A180
       clear A180
       have H':=Aside0.mk H
       clear H
       have hcz19_0:wr.cell? ⟨gb459,0,none⟩ = some (.slice A0_0 l0_0.length c0_0):=(blk_cell BK459.out 0).trans rfl
       have hcz19_1:wr.cell? ⟨gb459,1,none⟩ = some (.slice A0_1 l0_1.length c0_1):=(blk_cell BK459.out 1).trans rfl
       have hfz19_0:=blk_frozen BK459.out 0
       have hfz19_1:=blk_frozen BK459.out 1
       go_wp2_with (first | ((with_reducible refine gate_callee (f:=54) rfl ?_);refine goesL_ (some 34) rfl rfl Try.func54 (by kernel_rfl) rfl #[.agg #[.slice A0_0 l0_0.length c0_0,.slice A0_1 l0_1.length c0_1],.int .i64 a1,.int .i64 x11_2] rfl (by (try simp only [List.map_toArray,List.map_cons,List.map_nil]);first | done | rfl | (simp only [List.length_drop,List.length_take];rfl)) ?_;(with_reducible refine (spec_l18After.calls k2 _ _ l0_0 _ _ l0_1 a1 x11_2 t465 _ ?side1 ?side2 ?side3 ?side4 A18.out).mono ?_);(case side1=>repeat (first | exact (Kd.C_below HR0_0.out HB.out) | (with_reducible refine Kd.C_alloc ?_ _) | (with_reducible refine Kd.C_drewN ?_ _) | (with_reducible refine Kd.C_drew ?_)));(case side2=>exact HC0_0.out);(case side3=>repeat (first | exact (Kd.C_below HR0_1.out HB.out) | (with_reducible refine Kd.C_alloc ?_ _) | (with_reducible refine Kd.C_drewN ?_ _) | (with_reducible refine Kd.C_drew ?_)));(case side4=>exact HC0_1.out);rintro e w20 ⟨v466,rfl,ho0,hb⟩;refine ⟨_,rfl,?_⟩;have n0_:=Aside0.mk (Kd.R_elder' (by (with_reducible repeat (first | apply Kd.R_alloc | apply Kd.R_drewN | apply Kd.R_drew));exact HO_10.out) (Kd.R_base ho0) hb);have n1_:=Aside0.mk (Kd.R_lower (Kd.R_new' ho0 (Kd.R_lt (by (with_reducible repeat (first | apply Kd.R_alloc | apply Kd.R_drewN | apply Kd.R_drew));exact HO_10.out))) (below_size (by repeat (with_reducible first | exact HB.out | apply below_alloc | apply pw_below_drewN | apply below_drew1 | refine below_set ?_ GE459.out))));have n2_:=Aside0.mk (blk_below (g:=gb459) (o:=.cells #[.slice A0_0 l0_0.length c0_0,.slice A0_1 l0_1.length c0_1] 28 (0,0)) (by (with_reducible repeat (first | refine blk_drewN ?_ _ | refine blk_drew ?_ | refine blk_alloc ?_ _));exact BK459.out) hb);have n3_:=Aside0.mk (below_step (by repeat (with_reducible first | exact HB.out | apply below_alloc | apply pw_below_drewN | apply below_drew1 | refine below_set ?_ GE459.out)) hb);clear HO_10;clear BK459;clear HB;have HO_10:=n0_;have HO467:=n1_;have BK459:=n2_;have HB:=n3_;clear n0_ n1_ n2_ n3_;(try clear hb);(try clear hb2);(try clear hk);(try clear hi);(try clear ho0)))
       go_loopg [13,14] k2 (fun kq v13 v14 w'=>∃ (x13_3:Int) (x14_3:Int),v13 = .int .i64 x13_3∧v14 = .int .i64 x14_3∧Aside0 (spec_ChancesMark.l1 kq a1 a2 a3 x10_2 x11_2 t465 x13_3 x14_3 l0_0 l0_1 = some (r1,r2))∧Aside0 (kq ≤ k2)∧Aside0 (Kd.R (Kd.int .i64) 3 w' w.heap.size (fun k_=>some k_ ≠ (v466:Value).ownBlock) u10 x10_2)∧Aside0 (Kd.R (Kd.int .i64) 3 w' w.heap.size (fun k_=>some k_ ≠ (u10:Value).ownBlock) v466 t465)∧Aside0 (w'.heap[gb459]? = some (.cells #[(.slice A0_0 l0_0.length c0_0),(.slice A0_1 l0_1.length c0_1)] 28 (0,0)))∧Aside0 (Below w.heap.size w w'))
       case atStart=>exact ⟨(0),(0),(by first | rfl | (simp;done) | (simp [*];done)),(by first | rfl | (simp;done) | (simp [*];done)),H',⟨Nat.le_refl _⟩,⟨by exact Kd.R_mono HO_10.out (fun _ hk=>hk.2)⟩,⟨by exact Kd.R_mono HO467.out (fun _ hk=>hk.2)⟩,⟨by exact BK459.out⟩,⟨by exact HB.out⟩⟩
       case round =>
        clear H'
        try clear c1
        try clear p2
        try clear c3
        try clear c5
        try clear c8
        try clear c14
        try clear c17
        try clear c17b0
        try clear hcz10_0
        try clear hcz10_1
        try clear hcz12_0
        try clear hcz12_1
        try clear hcz19_0
        try clear hcz19_1
        try clear hfz10_0
        try clear hfz10_1
        try clear hfz12_0
        try clear hfz12_1
        try clear hfz19_0
        try clear hfz19_1
        try clear p2
        obtain ⟨x13_3,x14_3,rfl,rfl,HA,HK3,HO_10,HO_12,BK459,HB⟩:=hrel
        cases gk with
        | zero=>exact absurd HA.out (by simp [spec_ChancesMark.l1])
        | succ k3 =>
         have H:=HA.out
         clear HA
         simp only [spec_ChancesMark.l1] at H
         by_cases c21:x14_3 < (t465.length:Int)
         ·rw [if_pos c21] at H
          have c21b0:decide (x14_3 < (t465.length:Int)) = true:=decide_eq_true c21
          clear c21
          by_cases c22:0 ≤ x14_3
          ·rw [if_pos c22] at H
           have c22b0:decide (0 ≤ x14_3) = true:=decide_eq_true c22
           clear c22
           by_cases c23:x14_3 < (l0_0.length:Int)
           ·rw [if_pos c23] at H
            have c23b0:decide (x14_3 < (l0_0.length:Int)) = true:=decide_eq_true c23
            clear c23
            by_cases c24:(rd l0_0 x14_3) = a3
            ·rw [if_pos c24] at H
             have c24b0:((rd l0_0 x14_3) == a3) = true:=beq_iff_eq.mpr c24
             have c24b1:((rd l0_0 x14_3) != a3) = false:=bne_eq_false_iff_eq.mpr c24
             clear c24
             have H':=Aside0.mk H
             clear H
             obtain ⟨Ao25,co25,eo25⟩:=Kd.R_slice HO_12.out
             subst eo25
             have hcz26_0:wr.cell? ⟨gb459,0,none⟩ = some (.slice A0_0 l0_0.length c0_0):=(blk_cell BK459.out 0).trans rfl
             have hcz26_1:wr.cell? ⟨gb459,1,none⟩ = some (.slice A0_1 l0_1.length c0_1):=(blk_cell BK459.out 1).trans rfl
             have hfz26_0:=blk_frozen BK459.out 0
             have hfz26_1:=blk_frozen BK459.out 1
             have p468:0 ≤ (x14_3:Int):=of_decide_eq_true (by assumption)
             have q468:x14_3 < (l0_0.length:Int):=of_decide_eq_true (by assumption)
             obtain ⟨ad468,e468,hx468_0⟩:=Kd.at_int HR0_0.out x14_3 p468 q468
             cases e468
             replace hx468_0:=(HB.out.cell (World.block_lt_of_cell? w _ hx468_0)).trans hx468_0
             replace p468:=eq_true p468
             replace q468:=eq_true q468
             have p469:0 ≤ (x14_3:Int):=of_decide_eq_true (by assumption)
             have q469:x14_3 < (t465.length:Int):=of_decide_eq_true (by assumption)
             obtain ⟨ad469,e469,hx469_0⟩:=Kd.at_int (Kd.R_reads' HO_12.out).2.2 x14_3 p469 q469
             cases e469
             replace p469:=eq_true p469
             replace q469:=eq_true q469
             go_wp2
             go_roundg k3
             case measure=>have:=HJ4.out;have:=HK2.out;have:=HK3.out;omega
             case rel=>exact ⟨(wrap64 (x13_3 + (rd t465 x14_3))),(wrap64 (x14_3 + 1)),(by first | rfl | (simp;done) | (simp [*];done)),(by first | rfl | (simp;done) | (simp [*];done)),H',⟨by have:=HJ4.out;have:=HK2.out;have:=HK3.out;omega⟩,⟨by exact HO_10.out⟩,⟨by exact HO_12.out⟩,⟨by exact BK459.out⟩,⟨by exact HB.out⟩⟩
            ·rw [if_neg c24] at H
             have c24b0:((rd l0_0 x14_3) == a3) = false:=beq_eq_false_iff_ne.mpr c24
             have c24b1:((rd l0_0 x14_3) != a3) = true:=bne_iff_ne.mpr c24
             have H':=Aside0.mk H
             clear H
             obtain ⟨Ao27,co27,eo27⟩:=Kd.R_slice HO_12.out
             subst eo27
             have hcz28_0:wr.cell? ⟨gb459,0,none⟩ = some (.slice A0_0 l0_0.length c0_0):=(blk_cell BK459.out 0).trans rfl
             have hcz28_1:wr.cell? ⟨gb459,1,none⟩ = some (.slice A0_1 l0_1.length c0_1):=(blk_cell BK459.out 1).trans rfl
             have hfz28_0:=blk_frozen BK459.out 0
             have hfz28_1:=blk_frozen BK459.out 1
             have p468:0 ≤ (x14_3:Int):=of_decide_eq_true (by assumption)
             have q468:x14_3 < (l0_0.length:Int):=of_decide_eq_true (by assumption)
             obtain ⟨ad468,e468,hx468_0⟩:=Kd.at_int HR0_0.out x14_3 p468 q468
             cases e468
             replace hx468_0:=(HB.out.cell (World.block_lt_of_cell? w _ hx468_0)).trans hx468_0
             replace p468:=eq_true p468
             replace q468:=eq_true q468
             go_wp2
             go_roundg k3
             case measure=>have:=HJ4.out;have:=HK2.out;have:=HK3.out;omega
             case rel=>exact ⟨(x13_3),(wrap64 (x14_3 + 1)),(by first | rfl | (simp;done) | (simp [*];done)),(by first | rfl | (simp;done) | (simp [*];done)),H',⟨by have:=HJ4.out;have:=HK2.out;have:=HK3.out;omega⟩,⟨by exact HO_10.out⟩,⟨by exact HO_12.out⟩,⟨by exact BK459.out⟩,⟨by exact HB.out⟩⟩
           ·rw [if_neg c23] at H
            exact absurd H (by simp)
          ·rw [if_neg c22] at H
           exact absurd H (by simp)
         ·rw [if_neg c21] at H
          have c21b0:decide (x14_3 < (t465.length:Int)) = false:=decide_eq_false c21
          clear c21
          by_cases c29:x10_2.length < 17592186044416
          ·rw [if_pos c29] at H
           have LMc29:=Aside0.mk c29
           clear c29
           obtain ⟨y470,hy470⟩:∃ y_:List Int,y_ = (x10_2 ++ [x13_3]):=⟨_,rfl⟩
           replace H:(spec_ChancesMark.l0 k3 a1 a2 a3 y470 (wrap64 (x11_2 + 1)) l0_0 l0_1) = some (r1,r2):=by rw [hy470];exact H
           have Ny470:=Aside0.mk hy470
           clear hy470
           have H':=Aside0.mk H
           clear H
           obtain ⟨Ao30,co30,eo30⟩:=Kd.R_slice HO_12.out
           subst eo30
           go_wp2_with (first | ((with_reducible refine gate_builtin (b:=.append) (xs:=#[.tmp 54,.tmp 56]) rfl ?_);at_builtin;refine Kd.R_append (Kd.int .i64) (w0:=w) w.heap.size rfl (.tmp 54) (.tmp 56) 22 3 (.int .i64 0) 8 rfl Try.underlying22 info3 rfl (by decide) (by omega) u10 x10_2 x13_3 [.int .i64 x13_3] (fun k_=>some k_ ≠ (.slice Ao30 t465.length co30:Value).ownBlock) (fun _=>False) rfl rfl ?aP (fun _ hk=>hk.elim) ?aF ?aO ?aB ?aS ?aL ?_;(case aP=>exact rfl);(case aB=>exact (by exact HB.out));(case aF=>exact (fun k_ hk=>Kd.fresh' (Kd.R_lt (by exact HO_12.out)) k_ hk));(case aO=>exact (by exact HO_10.out));(case aS=>exact (below_size (by exact HB.out)));(case aL=>have:=LMc29.out;omega);intro v471 w31 ho hb hg hat;rw [← Ny470.out] at ho;have n0_:=Aside0.mk (Kd.R_after (ok:=(fun _=>True)) (by exact Kd.R_mono HO_12.out (fun _ hk=>⟨trivial,hk⟩)) hg hat);have n1_:=Aside0.mk (blk_grown (g:=gb459) (o:=.cells #[.slice A0_0 l0_0.length c0_0,.slice A0_1 l0_1.length c0_1] 28 (0,0)) (by exact BK459.out) hg (Kd.R_ne HO_10.out BK459.out (by decide)));have n2_:=Aside0.mk (hb);have n3_:=Aside0.mk (ho);clear HO_12;clear BK459;clear HB;clear HO_10;have HO_12:=n0_;have BK459:=n1_;have HB:=n2_;have HO472:=n3_;clear n0_ n1_ n2_ n3_;clear ho hb hg hat))
           go_roundg k3
           case measure=>have:=HJ4.out;have:=HK2.out;have:=HK3.out;omega
           case rel=>exact ⟨(y470),(wrap64 (x11_2 + 1)),(by first | rfl | (simp;done) | (simp [*];done)),H',⟨by have:=HJ4.out;have:=HK2.out;have:=HK3.out;omega⟩,⟨by exact Kd.R_mono HO472.out (fun _ hk=>trivial)⟩,⟨by exact BK459.out⟩,⟨by exact HB.out⟩⟩
          ·rw [if_neg c29] at H
           exact absurd H (by simp)
      ·rw [if_neg c17] at H
       have c17b0:decide (x11_2 ≤ a2) = false:=decide_eq_false c17
       clear c17
       simp only [Option.some.injEq,Prod.mk.injEq] at H
       obtain ⟨rfl,rfl⟩:=H
       go_wp2
       go_ret2
       exact ⟨_,rfl,by exact HO_10.out,by exact HB.out⟩
mutual
def impl_ChancesMark.j0:Nat → Int → Int → Int → Bool → List Int → List (List Int) → Option (List Int × Bool)
 | 0,_,_,_,_,_,_=>none
 | k + 1,x1,x2,x3,x28,x474000,x474001=>if x28 = true then (some (([]:List Int),false)) else ((impl_begin.f x474000 x474001 x1).bind fun t478=>(impl_ChancesMark.l0 k x2 x3 (([]:List Int)) t478 0 x474000 x474001))
def impl_ChancesMark.l0:Nat → Int → Int → List Int → List Int → Int → List Int → List (List Int) → Option (List Int × Bool)
 | 0,_,_,_,_,_,_,_=>none
 | k + 1,x2,x3,x10,x11,x12,x474000,x474001=>if x12 ≤ x2 then (if x12 > 0 then ((impl_spread.f k x474000 x474001 x11).bind fun t481=>(impl_ChancesMark.j2 k x2 x3 x10 t481 x12 x474000 x474001)) else (impl_ChancesMark.j2 k x2 x3 x10 x11 x12 x474000 x474001)) else (some (x10,true))
def impl_ChancesMark.j2:Nat → Int → Int → List Int → List Int → Int → List Int → List (List Int) → Option (List Int × Bool)
 | 0,_,_,_,_,_,_,_=>none
 | k + 1,x2,x3,x10,x11,x12,x474000,x474001=>impl_ChancesMark.l1 k x2 x3 x10 x11 x12 0 x11 (x11.length:Int) 0 x474000 x474001
def impl_ChancesMark.l1:Nat → Int → Int → List Int → List Int → Int → Int → List Int → Int → Int → List Int → List (List Int) → Option (List Int × Bool)
 | 0,_,_,_,_,_,_,_,_,_,_,_=>none
 | k + 1,x2,x3,x10,x11,x12,x13,x43,x44,x45,x474000,x474001=>if x45 < x44 then (if 0 ≤ x45 then (if x45 < (x43.length:Int) then (if x45 < (x474000.length:Int) then (if (rd x474000 x45) = x3 then (impl_ChancesMark.l1 k x2 x3 x10 x11 x12 (wrap64 (x13 + (rd x43 x45))) x43 x44 (wrap64 (x45 + 1)) x474000 x474001) else (impl_ChancesMark.l1 k x2 x3 x10 x11 x12 x13 x43 x44 (wrap64 (x45 + 1)) x474000 x474001)) else (none)) else (none)) else (none)) else (if x10.length < 17592186044416 then (impl_ChancesMark.l0 k x2 x3 (x10 ++ [x13]) x11 (wrap64 (x12 + 1)) x474000 x474001) else (none))
end
def impl_ChancesMark.f (k:Nat) (l0_0:List Int) (l0_1:List (List Int)) (a1:Int) (a2:Int) (a3:Int):Option (List Int × Bool):=(impl_stepsOk.f k l0_0 l0_1 a1 a2).bind fun t474=>(if t474 = true then (if a3 < 0 then (impl_ChancesMark.j0 k a1 a2 a3 true l0_0 l0_1) else (impl_ChancesMark.j0 k a1 a2 a3 (decide (a3 > 9)) l0_0 l0_1)) else (impl_ChancesMark.j0 k a1 a2 a3 true l0_0 l0_1))
theorem impl_ChancesMark.mono_l:∀ k,(∀ y0 y1 y2 y3 y4 y5,LeO (impl_ChancesMark.j0 k y0 y1 y2 y3 y4 y5) (impl_ChancesMark.j0 (k + 1) y0 y1 y2 y3 y4 y5))∧(∀ y0 y1 y2 y3 y4 y5 y6,LeO (impl_ChancesMark.l0 k y0 y1 y2 y3 y4 y5 y6) (impl_ChancesMark.l0 (k + 1) y0 y1 y2 y3 y4 y5 y6))∧(∀ y0 y1 y2 y3 y4 y5 y6,LeO (impl_ChancesMark.j2 k y0 y1 y2 y3 y4 y5 y6) (impl_ChancesMark.j2 (k + 1) y0 y1 y2 y3 y4 y5 y6))∧(∀ y0 y1 y2 y3 y4 y5 y6 y7 y8 y9 y10,LeO (impl_ChancesMark.l1 k y0 y1 y2 y3 y4 y5 y6 y7 y8 y9 y10) (impl_ChancesMark.l1 (k + 1) y0 y1 y2 y3 y4 y5 y6 y7 y8 y9 y10))
 | 0=>⟨fun _ _ _ _ _ _ r h=>by simp [impl_ChancesMark.j0] at h,fun _ _ _ _ _ _ _ r h=>by simp [impl_ChancesMark.l0] at h,fun _ _ _ _ _ _ _ r h=>by simp [impl_ChancesMark.j2] at h,fun _ _ _ _ _ _ _ _ _ _ _ r h=>by simp [impl_ChancesMark.l1] at h⟩
 | k + 1=>by
  obtain ⟨ih0,ih1,ih2,ih3⟩:=impl_ChancesMark.mono_l k
  refine ⟨?_,?_,?_,?_⟩
  ·intro y0 y1 y2 y3 y4 y5
   unfold impl_ChancesMark.j0
   repeat' first
   | (with_reducible exact ih0 _ _ _ _ _ _)
   | (with_reducible exact ih1 _ _ _ _ _ _ _)
   | (with_reducible exact ih2 _ _ _ _ _ _ _)
   | (with_reducible exact ih3 _ _ _ _ _ _ _ _ _ _ _)
   | (with_reducible exact impl_spread.mono _ _ _ _)
   | (with_reducible exact impl_stepsOk.mono _ _ _ _ _)
   | (with_reducible exact LeO.refl _)
   | (with_reducible exact LeO.none _)
   | (with_reducible refine LeO.ite ?_ ?_)
   | (with_reducible refine LeO.bind ?_ (fun _=>?_))
   | exact ih0 _ _ _ _ _ _
   | exact ih1 _ _ _ _ _ _ _
   | exact ih2 _ _ _ _ _ _ _
   | exact ih3 _ _ _ _ _ _ _ _ _ _ _
   | exact impl_spread.mono _ _ _ _
   | exact impl_stepsOk.mono _ _ _ _ _
   | exact LeO.none _
   | refine LeO.ite ?_ ?_
   | refine LeO.bind ?_ (fun _=>?_)
  ·intro y0 y1 y2 y3 y4 y5 y6
   unfold impl_ChancesMark.l0
   repeat' first
   | (with_reducible exact ih0 _ _ _ _ _ _)
   | (with_reducible exact ih1 _ _ _ _ _ _ _)
   | (with_reducible exact ih2 _ _ _ _ _ _ _)
   | (with_reducible exact ih3 _ _ _ _ _ _ _ _ _ _ _)
   | (with_reducible exact impl_spread.mono _ _ _ _)
   | (with_reducible exact impl_stepsOk.mono _ _ _ _ _)
   | (with_reducible exact LeO.refl _)
   | (with_reducible exact LeO.none _)
   | (with_reducible refine LeO.ite ?_ ?_)
   | (with_reducible refine LeO.bind ?_ (fun _=>?_))
   | exact ih0 _ _ _ _ _ _
   | exact ih1 _ _ _ _ _ _ _
   | exact ih2 _ _ _ _ _ _ _
   | exact ih3 _ _ _ _ _ _ _ _ _ _ _
   | exact impl_spread.mono _ _ _ _
   | exact impl_stepsOk.mono _ _ _ _ _
   | exact LeO.none _
   | refine LeO.ite ?_ ?_
   | refine LeO.bind ?_ (fun _=>?_)
  ·intro y0 y1 y2 y3 y4 y5 y6
   unfold impl_ChancesMark.j2
   repeat' first
   | (with_reducible exact ih0 _ _ _ _ _ _)
   | (with_reducible exact ih1 _ _ _ _ _ _ _)
   | (with_reducible exact ih2 _ _ _ _ _ _ _)
   | (with_reducible exact ih3 _ _ _ _ _ _ _ _ _ _ _)
   | (with_reducible exact impl_spread.mono _ _ _ _)
   | (with_reducible exact impl_stepsOk.mono _ _ _ _ _)
   | (with_reducible exact LeO.refl _)
   | (with_reducible exact LeO.none _)
   | (with_reducible refine LeO.ite ?_ ?_)
   | (with_reducible refine LeO.bind ?_ (fun _=>?_))
   | exact ih0 _ _ _ _ _ _
   | exact ih1 _ _ _ _ _ _ _
   | exact ih2 _ _ _ _ _ _ _
   | exact ih3 _ _ _ _ _ _ _ _ _ _ _
   | exact impl_spread.mono _ _ _ _
   | exact impl_stepsOk.mono _ _ _ _ _
   | exact LeO.none _
   | refine LeO.ite ?_ ?_
   | refine LeO.bind ?_ (fun _=>?_)
  ·intro y0 y1 y2 y3 y4 y5 y6 y7 y8 y9 y10
   unfold impl_ChancesMark.l1
   repeat' first
   | (with_reducible exact ih0 _ _ _ _ _ _)
   | (with_reducible exact ih1 _ _ _ _ _ _ _)
   | (with_reducible exact ih2 _ _ _ _ _ _ _)
   | (with_reducible exact ih3 _ _ _ _ _ _ _ _ _ _ _)
   | (with_reducible exact impl_spread.mono _ _ _ _)
   | (with_reducible exact impl_stepsOk.mono _ _ _ _ _)
   | (with_reducible exact LeO.refl _)
   | (with_reducible exact LeO.none _)
   | (with_reducible refine LeO.ite ?_ ?_)
   | (with_reducible refine LeO.bind ?_ (fun _=>?_))
   | exact ih0 _ _ _ _ _ _
   | exact ih1 _ _ _ _ _ _ _
   | exact ih2 _ _ _ _ _ _ _
   | exact ih3 _ _ _ _ _ _ _ _ _ _ _
   | exact impl_spread.mono _ _ _ _
   | exact impl_stepsOk.mono _ _ _ _ _
   | exact LeO.none _
   | refine LeO.ite ?_ ?_
   | refine LeO.bind ?_ (fun _=>?_)
theorem impl_ChancesMark.mono:∀ a0 a1 a2 a3 a4 k,LeO (impl_ChancesMark.f k a0 a1 a2 a3 a4) (impl_ChancesMark.f (k + 1) a0 a1 a2 a3 a4):=by
 intro a0 a1 a2 a3 a4 k
 obtain ⟨ih0,ih1,ih2,ih3⟩:=impl_ChancesMark.mono_l k
 unfold impl_ChancesMark.f
 repeat' first
   | (with_reducible exact ih0 _ _ _ _ _ _)
   | (with_reducible exact ih1 _ _ _ _ _ _ _)
   | (with_reducible exact ih2 _ _ _ _ _ _ _)
   | (with_reducible exact ih3 _ _ _ _ _ _ _ _ _ _ _)
   | (with_reducible exact impl_spread.mono _ _ _ _)
   | (with_reducible exact impl_stepsOk.mono _ _ _ _ _)
   | (with_reducible exact LeO.refl _)
   | (with_reducible exact LeO.none _)
   | (with_reducible refine LeO.ite ?_ ?_)
   | (with_reducible refine LeO.bind ?_ (fun _=>?_))
   | exact ih0 _ _ _ _ _ _
   | exact ih1 _ _ _ _ _ _ _
   | exact ih2 _ _ _ _ _ _ _
   | exact ih3 _ _ _ _ _ _ _ _ _ _ _
   | exact impl_spread.mono _ _ _ _
   | exact impl_stepsOk.mono _ _ _ _ _
   | exact LeO.none _
   | refine LeO.ite ?_ ?_
   | refine LeO.bind ?_ (fun _=>?_)
set_option maxHeartbeats 8000000 in
set_option maxRecDepth 100000 in
theorem impl_ChancesMark.calls (k:Nat) (A0_0:Option Addr) (c0_0:Nat) (l0_0:List Int) (A0_1:Option Addr) (c0_1:Nat) (l0_1:List (List Int)) (a1:Int) (a2:Int) (a3:Int) (r1:List Int) (r2:Bool) (w:World) (hr0_0:Kd.C (Kd.int .i64) w A0_0 l0_0.length l0_0) (hc0_0:l0_0.length ≤ c0_0) (hr0_1:Kd.C (Kd.slice 3 (Kd.int .i64)) w A0_1 l0_1.length l0_1) (hc0_1:l0_1.length ≤ c0_1) (h:impl_ChancesMark.f k l0_0 l0_1 a1 a2 a3 = some (r1,r2)) :
  Calls Try.prog 32 #[.agg #[.slice A0_0 l0_0.length c0_0,.slice A0_1 l0_1.length c0_1],.int .i64 a1,.int .i64 a2,.int .i64 a3] w fun e w'=>∃ v0_:Value,e = .returned (.tuple #[v0_,.bool r2])∧Kd.R (Kd.int .i64) 3 w' w.heap.size (fun _=>True) v0_ r1∧Below w.heap.size w w':=by
 have hu28:=Try.underlying28
 have HR0_0:=Aside0.mk hr0_0
 have HC0_0:=Aside0.mk hc0_0
 clear hr0_0 hc0_0
 have HR0_1:=Aside0.mk hr0_1
 have HC0_1:=Aside0.mk hc0_1
 clear hr0_1 hc0_1
 have HB:=Aside0.mk (Below.refl w.heap.size w)
 have H:((impl_stepsOk.f k l0_0 l0_1 a1 a2).bind fun t474=>(if t474 = true then (if a3 < 0 then (impl_ChancesMark.j0 k a1 a2 a3 true l0_0 l0_1) else (impl_ChancesMark.j0 k a1 a2 a3 (decide (a3 > 9)) l0_0 l0_1)) else (impl_ChancesMark.j0 k a1 a2 a3 true l0_0 l0_1))) = some (r1,r2):=h
 clear h
 have HC5:=Aside0.mk H
 clear H
 go_enter Try.func32,Try.ntmps32
 go_upto_region 1 with (first | ((with_reducible refine gate_dst (N:=4) rfl ?_);refine box_event ?hg (N:=4) ?hd (cs:=#[.slice A0_0 l0_0.length c0_0,.slice A0_1 l0_1.length c0_1]) (t:=28) ?hr ?_;(case hd=>rfl);(case hg=>rfl);(case hr=>first | (go_simp;done) | (go_simp;rfl));intro gb473 hg w6 hbox hb;have n0_:=Aside0.mk (below_step (by exact HB.out) hb);have n1_:=Aside0.mk (hbox);have n2_:=Aside0.mk ((by rw [hg];exact (below_size (by exact HB.out)):w.heap.size ≤ gb473));have n3_:=Aside0.mk ((by rw [hg];exact (below_size (by exact HB.out)):w.heap.size ≤ gb473));clear HB;have HB:=n0_;have BK473:=n1_;have GW473:=n2_;have GE473:=n3_;clear n0_ n1_ n2_ n3_;clear hb hbox hg))
 (try simp only [Act.put,List.setIfInBounds_toArray,List.set_cons_zero,List.set_cons_succ])
 go_cut [28] (fun v28 wc=>∃ (kq:Nat) (x28_4:Bool),v28 = .bool x28_4∧Aside0 (impl_ChancesMark.j0 kq a1 a2 a3 x28_4 l0_0 l0_1 = some (r1,r2))∧Aside0 (kq ≤ k)∧Aside0 (wc.heap[gb473]? = some (.cells #[(.slice A0_0 l0_0.length c0_0),(.slice A0_1 l0_1.length c0_1)] 28 (0,0)))∧Aside0 (Below w.heap.size w wc))
 case first =>
  have H:=HC5.out
  clear HC5
  replace H:=Option.bind_eq_some_iff.mp H
  obtain ⟨t474,A70,H⟩:=H
  replace H:(if t474 = true then (if a3 < 0 then (impl_ChancesMark.j0 k a1 a2 a3 true l0_0 l0_1) else (impl_ChancesMark.j0 k a1 a2 a3 (decide (a3 > 9)) l0_0 l0_1)) else (impl_ChancesMark.j0 k a1 a2 a3 true l0_0 l0_1)) = some (r1,r2):=H
  have A7:=Aside0.mk A70
  clear A70
  by_cases c8:t474 = true
  ·subst c8
   have H1:(if a3 < 0 then (impl_ChancesMark.j0 k a1 a2 a3 true l0_0 l0_1) else (impl_ChancesMark.j0 k a1 a2 a3 (decide (a3 > 9)) l0_0 l0_1)) = some (r1,r2):=by rw [if_pos rfl] at H;exact H
   clear H
   have H:=H1
   clear H1
   by_cases c9:a3 < 0
   ·rw [if_pos c9] at H
    have c9b0:decide (a3 < 0) = true:=decide_eq_true c9
    clear c9
    (first | rw [c9b0] | (simp only [i64_w,i32_w];rw [c9b0]) | skip)
    have H':=Aside0.mk H
    clear H
    have hcz10_0:w6.cell? ⟨gb473,0,none⟩ = some (.slice A0_0 l0_0.length c0_0):=(blk_cell BK473.out 0).trans rfl
    have hcz10_1:w6.cell? ⟨gb473,1,none⟩ = some (.slice A0_1 l0_1.length c0_1):=(blk_cell BK473.out 1).trans rfl
    have hfz10_0:=blk_frozen BK473.out 0
    have hfz10_1:=blk_frozen BK473.out 1
    go_wp2_with (first | ((with_reducible refine gate_callee (f:=50) rfl ?_);refine goesL_ (some 19) rfl rfl Try.func50 (by kernel_rfl) rfl #[.agg #[.slice A0_0 l0_0.length c0_0,.slice A0_1 l0_1.length c0_1],.int .i64 a1,.int .i64 a2] rfl (by (try simp only [List.map_toArray,List.map_cons,List.map_nil]);first | done | rfl | (simp only [List.length_drop,List.length_take];rfl)) ?_;(with_reducible refine (impl_stepsOk.calls k _ _ l0_0 _ _ l0_1 a1 a2 true _ ?side1 ?side2 ?side3 ?side4 A7.out).mono ?_);(case side1=>repeat (first | exact (Kd.C_below HR0_0.out HB.out) | (with_reducible refine Kd.C_alloc ?_ _) | (with_reducible refine Kd.C_drewN ?_ _) | (with_reducible refine Kd.C_drew ?_)));(case side2=>exact HC0_0.out);(case side3=>repeat (first | exact (Kd.C_below HR0_1.out HB.out) | (with_reducible refine Kd.C_alloc ?_ _) | (with_reducible refine Kd.C_drewN ?_ _) | (with_reducible refine Kd.C_drew ?_)));(case side4=>exact HC0_1.out);rintro e w11 ⟨rfl,hb⟩;refine ⟨_,rfl,?_⟩;have n0_:=Aside0.mk (blk_below (g:=gb473) (o:=.cells #[.slice A0_0 l0_0.length c0_0,.slice A0_1 l0_1.length c0_1] 28 (0,0)) (by (with_reducible repeat (first | refine blk_drewN ?_ _ | refine blk_drew ?_ | refine blk_alloc ?_ _));exact BK473.out) hb);have n1_:=Aside0.mk (below_step (by repeat (with_reducible first | exact HB.out | apply below_alloc | apply pw_below_drewN | apply below_drew1 | refine below_set ?_ GE473.out)) hb);clear BK473;clear HB;have BK473:=n0_;have HB:=n1_;clear n0_ n1_;(try clear hb);(try clear hb2);(try clear hk);(try clear hi)))
    go_meet
    case rel=>exact ⟨_,(true),(by first | rfl | (simp;done) | (simp [*];done)),H',⟨by first | omega | exact Nat.le_refl _⟩,⟨by exact BK473.out⟩,⟨by exact HB.out⟩⟩
   ·rw [if_neg c9] at H
    have c9b0:decide (a3 < 0) = false:=decide_eq_false c9
    clear c9
    (first | rw [c9b0] | (simp only [i64_w,i32_w];rw [c9b0]) | skip)
    have H':=Aside0.mk H
    clear H
    have hcz12_0:w6.cell? ⟨gb473,0,none⟩ = some (.slice A0_0 l0_0.length c0_0):=(blk_cell BK473.out 0).trans rfl
    have hcz12_1:w6.cell? ⟨gb473,1,none⟩ = some (.slice A0_1 l0_1.length c0_1):=(blk_cell BK473.out 1).trans rfl
    have hfz12_0:=blk_frozen BK473.out 0
    have hfz12_1:=blk_frozen BK473.out 1
    go_wp2_with (first | ((with_reducible refine gate_callee (f:=50) rfl ?_);refine goesL_ (some 19) rfl rfl Try.func50 (by kernel_rfl) rfl #[.agg #[.slice A0_0 l0_0.length c0_0,.slice A0_1 l0_1.length c0_1],.int .i64 a1,.int .i64 a2] rfl (by (try simp only [List.map_toArray,List.map_cons,List.map_nil]);first | done | rfl | (simp only [List.length_drop,List.length_take];rfl)) ?_;(with_reducible refine (impl_stepsOk.calls k _ _ l0_0 _ _ l0_1 a1 a2 true _ ?side1 ?side2 ?side3 ?side4 A7.out).mono ?_);(case side1=>repeat (first | exact (Kd.C_below HR0_0.out HB.out) | (with_reducible refine Kd.C_alloc ?_ _) | (with_reducible refine Kd.C_drewN ?_ _) | (with_reducible refine Kd.C_drew ?_)));(case side2=>exact HC0_0.out);(case side3=>repeat (first | exact (Kd.C_below HR0_1.out HB.out) | (with_reducible refine Kd.C_alloc ?_ _) | (with_reducible refine Kd.C_drewN ?_ _) | (with_reducible refine Kd.C_drew ?_)));(case side4=>exact HC0_1.out);rintro e w13 ⟨rfl,hb⟩;refine ⟨_,rfl,?_⟩;have n0_:=Aside0.mk (blk_below (g:=gb473) (o:=.cells #[.slice A0_0 l0_0.length c0_0,.slice A0_1 l0_1.length c0_1] 28 (0,0)) (by (with_reducible repeat (first | refine blk_drewN ?_ _ | refine blk_drew ?_ | refine blk_alloc ?_ _));exact BK473.out) hb);have n1_:=Aside0.mk (below_step (by repeat (with_reducible first | exact HB.out | apply below_alloc | apply pw_below_drewN | apply below_drew1 | refine below_set ?_ GE473.out)) hb);clear BK473;clear HB;have BK473:=n0_;have HB:=n1_;clear n0_ n1_;(try clear hb);(try clear hb2);(try clear hk);(try clear hi)))
    go_meet
    case rel=>exact ⟨_,(decide (a3 > 9)),(by first | rfl | (simp;done) | (simp [*];done)),H',⟨by first | omega | exact Nat.le_refl _⟩,⟨by exact BK473.out⟩,⟨by exact HB.out⟩⟩
  ·replace c8:=Bool.eq_false_iff.mpr c8
   subst c8
   have H1:(impl_ChancesMark.j0 k a1 a2 a3 true l0_0 l0_1) = some (r1,r2):=by rw [if_neg (show ¬ (false = true) by decide)] at H;exact H
   clear H
   have H:=H1
   clear H1
   have H':=Aside0.mk H
   clear H
   have hcz14_0:w6.cell? ⟨gb473,0,none⟩ = some (.slice A0_0 l0_0.length c0_0):=(blk_cell BK473.out 0).trans rfl
   have hcz14_1:w6.cell? ⟨gb473,1,none⟩ = some (.slice A0_1 l0_1.length c0_1):=(blk_cell BK473.out 1).trans rfl
   have hfz14_0:=blk_frozen BK473.out 0
   have hfz14_1:=blk_frozen BK473.out 1
   go_wp2_with (first | ((with_reducible refine gate_callee (f:=50) rfl ?_);refine goesL_ (some 19) rfl rfl Try.func50 (by kernel_rfl) rfl #[.agg #[.slice A0_0 l0_0.length c0_0,.slice A0_1 l0_1.length c0_1],.int .i64 a1,.int .i64 a2] rfl (by (try simp only [List.map_toArray,List.map_cons,List.map_nil]);first | done | rfl | (simp only [List.length_drop,List.length_take];rfl)) ?_;(with_reducible refine (impl_stepsOk.calls k _ _ l0_0 _ _ l0_1 a1 a2 false _ ?side1 ?side2 ?side3 ?side4 A7.out).mono ?_);(case side1=>repeat (first | exact (Kd.C_below HR0_0.out HB.out) | (with_reducible refine Kd.C_alloc ?_ _) | (with_reducible refine Kd.C_drewN ?_ _) | (with_reducible refine Kd.C_drew ?_)));(case side2=>exact HC0_0.out);(case side3=>repeat (first | exact (Kd.C_below HR0_1.out HB.out) | (with_reducible refine Kd.C_alloc ?_ _) | (with_reducible refine Kd.C_drewN ?_ _) | (with_reducible refine Kd.C_drew ?_)));(case side4=>exact HC0_1.out);rintro e w15 ⟨rfl,hb⟩;refine ⟨_,rfl,?_⟩;have n0_:=Aside0.mk (blk_below (g:=gb473) (o:=.cells #[.slice A0_0 l0_0.length c0_0,.slice A0_1 l0_1.length c0_1] 28 (0,0)) (by (with_reducible repeat (first | refine blk_drewN ?_ _ | refine blk_drew ?_ | refine blk_alloc ?_ _));exact BK473.out) hb);have n1_:=Aside0.mk (below_step (by repeat (with_reducible first | exact HB.out | apply below_alloc | apply pw_below_drewN | apply below_drew1 | refine below_set ?_ GE473.out)) hb);clear BK473;clear HB;have BK473:=n0_;have HB:=n1_;clear n0_ n1_;(try clear hb);(try clear hb2);(try clear hk);(try clear hi)))
   go_meet
   case rel=>exact ⟨_,(true),(by first | rfl | (simp;done) | (simp [*];done)),H',⟨by first | omega | exact Nat.le_refl _⟩,⟨by exact BK473.out⟩,⟨by exact HB.out⟩⟩
 case rest =>
  clear HC5
  try clear p2
  try clear c3
  try clear c5
  try clear c8
  try clear c9
  try clear c9b0
  try clear hcz10_0
  try clear hcz10_1
  try clear hcz12_0
  try clear hcz12_1
  try clear hcz14_0
  try clear hcz14_1
  try clear hfz10_0
  try clear hfz10_1
  try clear hfz12_0
  try clear hfz12_1
  try clear hfz14_0
  try clear hfz14_1
  obtain ⟨kq,x28_4,rfl,HA,HJ4,BK473,HB⟩:=hcut
  cases kq with
  | zero=>exact absurd HA.out (by simp [impl_ChancesMark.j0])
  | succ kj4 =>
   have H:=HA.out
   clear HA
   simp only [impl_ChancesMark.j0] at H
   by_cases c16:x28_4 = true
   ·subst c16
    have H1:(some (([]:List Int),false)) = some (r1,r2):=by rw [if_pos rfl] at H;exact H
    clear H
    have H:=H1
    clear H1
    simp only [Option.some.injEq,Prod.mk.injEq] at H
    obtain ⟨rfl,rfl⟩:=H
    go_wp2
    go_ret2
    exact ⟨_,rfl,Kd.R_nil _ _ _ _ _,by exact HB.out⟩
   ·replace c16:=Bool.eq_false_iff.mpr c16
    subst c16
    have H1:((impl_begin.f l0_0 l0_1 a1).bind fun t478=>(impl_ChancesMark.l0 kj4 a2 a3 (([]:List Int)) t478 0 l0_0 l0_1)) = some (r1,r2):=by rw [if_neg (show ¬ (false = true) by decide)] at H;exact H
    clear H
    have H:=H1
    clear H1
    obtain ⟨y475,hy475⟩:∃ y_:List Int,y_ = (([]:List Int)):=⟨_,rfl⟩
    replace H:((impl_begin.f l0_0 l0_1 a1).bind fun t478=>(impl_ChancesMark.l0 kj4 a2 a3 y475 t478 0 l0_0 l0_1)) = some (r1,r2):=by rw [hy475];exact H
    have Ny475:=Aside0.mk hy475
    clear hy475
    replace H:=Option.bind_eq_some_iff.mp H
    obtain ⟨t478,A170,H⟩:=H
    replace H:(impl_ChancesMark.l0 kj4 a2 a3 y475 t478 0 l0_0 l0_1) = some (r1,r2):=H
    have A17:=Aside0.mk A170
    clear A170
    have H':=Aside0.mk H
    clear H
    go_wp2_with (first | ((with_reducible refine gate_dst (N:=29) rfl ?_);refine Kd.R_lit (Kd.int .i64) _ 3 ?hg (N:=29) ?hd (xs:=([]:List Int)) (inner:=[]) (ok:=fun _=>True) (okp:=fun _=>True) ?hr ?hp (fun _ hk=>hk) trivial (Below.refl _ _) (Nat.le_refl _) (by simp) ?_;(case hd=>rfl);(case hg=>rfl);(case hr=>first | (go_simp;done) | (go_simp;rfl));(case hp=>exact (Reps.none _ _));intro v476 w18 ho19 hb hg_ hnew_;clear hg_ hnew_;(first | rw [← Ny475.out] at ho19 | (simp only [Int.reduceToNat] at ho19;rw [← Ny475.out] at ho19));have n0_:=Aside0.mk (Kd.R_lower ho19 (below_size (by repeat (with_reducible first | exact HB.out | apply below_alloc | apply pw_below_drewN | apply below_drew1 | refine below_set ?_ GE473.out))));have n1_:=Aside0.mk (blk_below (g:=gb473) (o:=.cells #[.slice A0_0 l0_0.length c0_0,.slice A0_1 l0_1.length c0_1] 28 (0,0)) (by (with_reducible repeat (first | refine blk_drewN ?_ _ | refine blk_drew ?_ | refine blk_alloc ?_ _));exact BK473.out) hb);have n2_:=Aside0.mk (below_step (by repeat (with_reducible first | exact HB.out | apply below_alloc | apply pw_below_drewN | apply below_drew1 | refine below_set ?_ GE473.out)) hb);clear BK473;clear HB;have HO477:=n0_;have BK473:=n1_;have HB:=n2_;clear n0_ n1_ n2_;clear hb ho19;have hcz20_0:w18.cell? ⟨gb473,0,none⟩ = some (.slice A0_0 l0_0.length c0_0):=(blk_cell BK473.out 0).trans rfl;have hcz20_1:w18.cell? ⟨gb473,1,none⟩ = some (.slice A0_1 l0_1.length c0_1):=(blk_cell BK473.out 1).trans rfl;have hfz20_0:=blk_frozen BK473.out 0;have hfz20_1:=blk_frozen BK473.out 1) | ((with_reducible refine gate_callee (f:=51) rfl ?_);refine goesL_ (some 32) rfl rfl Try.func51 (by kernel_rfl) rfl #[.agg #[.slice A0_0 l0_0.length c0_0,.slice A0_1 l0_1.length c0_1],.int .i64 a1] rfl (by (try simp only [List.map_toArray,List.map_cons,List.map_nil]);first | done | rfl | (simp only [List.length_drop,List.length_take];rfl)) ?_;(with_reducible refine (impl_begin.calls _ _ l0_0 _ _ l0_1 a1 t478 _ ?side1 ?side2 ?side3 ?side4 A17.out).mono ?_);(case side1=>repeat (first | exact (Kd.C_below HR0_0.out HB.out) | (with_reducible refine Kd.C_alloc ?_ _) | (with_reducible refine Kd.C_drewN ?_ _) | (with_reducible refine Kd.C_drew ?_)));(case side2=>exact HC0_0.out);(case side3=>repeat (first | exact (Kd.C_below HR0_1.out HB.out) | (with_reducible refine Kd.C_alloc ?_ _) | (with_reducible refine Kd.C_drewN ?_ _) | (with_reducible refine Kd.C_drew ?_)));(case side4=>exact HC0_1.out);rintro e w21 ⟨v479,rfl,ho0,hb⟩;refine ⟨_,rfl,?_⟩;have n0_:=Aside0.mk (Kd.R_elder' (by (with_reducible repeat (first | apply Kd.R_alloc | apply Kd.R_drewN | apply Kd.R_drew));exact HO477.out) (Kd.R_base ho0) hb);have n1_:=Aside0.mk (Kd.R_lower (Kd.R_new' ho0 (Kd.R_lt (by (with_reducible repeat (first | apply Kd.R_alloc | apply Kd.R_drewN | apply Kd.R_drew));exact HO477.out))) (below_size (by repeat (with_reducible first | exact HB.out | apply below_alloc | apply pw_below_drewN | apply below_drew1 | refine below_set ?_ GE473.out))));have n2_:=Aside0.mk (blk_below (g:=gb473) (o:=.cells #[.slice A0_0 l0_0.length c0_0,.slice A0_1 l0_1.length c0_1] 28 (0,0)) (by (with_reducible repeat (first | refine blk_drewN ?_ _ | refine blk_drew ?_ | refine blk_alloc ?_ _));exact BK473.out) hb);have n3_:=Aside0.mk (below_step (by repeat (with_reducible first | exact HB.out | apply below_alloc | apply pw_below_drewN | apply below_drew1 | refine below_set ?_ GE473.out)) hb);clear HO477;clear BK473;clear HB;have HO477:=n0_;have HO480:=n1_;have BK473:=n2_;have HB:=n3_;clear n0_ n1_ n2_ n3_;(try clear hb);(try clear hb2);(try clear hk);(try clear hi);(try clear ho0)))
    go_loopg [10,11,12] kj4 (fun kq v10 v11 v12 w'=>∃ (x10_2:List Int) (x11_2:List Int) (x12_2:Int),v12 = .int .i64 x12_2∧Aside0 (impl_ChancesMark.l0 kq a2 a3 x10_2 x11_2 x12_2 l0_0 l0_1 = some (r1,r2))∧Aside0 (kq ≤ kj4)∧Aside0 (Kd.R (Kd.int .i64) 3 w' w.heap.size (fun k_=>some k_ ≠ (v11:Value).ownBlock) v10 x10_2)∧Aside0 (Kd.R (Kd.int .i64) 3 w' w.heap.size (fun k_=>some k_ ≠ (v10:Value).ownBlock) v11 x11_2)∧Aside0 (w'.heap[gb473]? = some (.cells #[(.slice A0_0 l0_0.length c0_0),(.slice A0_1 l0_1.length c0_1)] 28 (0,0)))∧Aside0 (Below w.heap.size w w'))
    case atStart=>exact ⟨(y475),(t478),(0),(by first | rfl | (simp;done) | (simp [*];done)),H',⟨Nat.le_refl _⟩,⟨by exact Kd.R_mono HO477.out (fun _ hk=>hk.2)⟩,⟨by exact Kd.R_mono HO480.out (fun _ hk=>hk.2)⟩,⟨by exact BK473.out⟩,⟨by exact HB.out⟩⟩
    case round =>
     clear H'
     try clear c1
     try clear p2
     try clear c3
     try clear c5
     try clear c8
     try clear c9
     try clear c9b0
     try clear c16
     try clear hcz10_0
     try clear hcz10_1
     try clear hcz12_0
     try clear hcz12_1
     try clear hcz14_0
     try clear hcz14_1
     try clear hcz20_0
     try clear hcz20_1
     try clear hfz10_0
     try clear hfz10_1
     try clear hfz12_0
     try clear hfz12_1
     try clear hfz14_0
     try clear hfz14_1
     try clear hfz20_0
     try clear hfz20_1
     try clear p2
     obtain ⟨x10_2,x11_2,x12_2,rfl,HA,HK2,HO_10,HO_11,BK473,HB⟩:=hrel
     cases gk with
     | zero=>exact absurd HA.out (by simp [impl_ChancesMark.l0])
     | succ k2 =>
      have H:=HA.out
      clear HA
      simp only [impl_ChancesMark.l0] at H
      by_cases c22:x12_2 ≤ a2
      ·rw [if_pos c22] at H
       have c22b0:decide (x12_2 ≤ a2) = true:=decide_eq_true c22
       clear c22
       have HC23:=Aside0.mk H
       clear H
       go_upto_if 39 with (fail)
       go_cut [11] (fun v11 wc=>∃ (kq:Nat) (x11_22:List Int),Aside0 (impl_ChancesMark.j2 kq a2 a3 x10_2 x11_22 x12_2 l0_0 l0_1 = some (r1,r2))∧Aside0 (kq ≤ k2)∧Aside0 (Kd.R (Kd.int .i64) 3 wc w.heap.size (fun k_=>some k_ ≠ (v11:Value).ownBlock) u10 x10_2)∧Aside0 (Kd.R (Kd.int .i64) 3 wc w.heap.size (fun k_=>some k_ ≠ (u10:Value).ownBlock) v11 x11_22)∧Aside0 (wc.heap[gb473]? = some (.cells #[(.slice A0_0 l0_0.length c0_0),(.slice A0_1 l0_1.length c0_1)] 28 (0,0)))∧Aside0 (Below w.heap.size w wc))
       case first =>
        have H:=HC23.out
        clear HC23
        by_cases c24:x12_2 > 0
        ·rw [if_pos c24] at H
         have c24b0:decide (0 < x12_2) = true:=decide_eq_true c24
         clear c24
         (first | rw [c24b0] | (simp only [i64_w,i32_w];rw [c24b0]) | skip)
         replace H:=Option.bind_eq_some_iff.mp H
         obtain ⟨t481,A250,H⟩:=H
         replace H:(impl_ChancesMark.j2 k2 a2 a3 x10_2 t481 x12_2 l0_0 l0_1) = some (r1,r2):=H
         have A25:=Aside0.mk A250
         clear A250
         have H':=Aside0.mk H
         clear H
         have hcz26_0:wr.cell? ⟨gb473,0,none⟩ = some (.slice A0_0 l0_0.length c0_0):=(blk_cell BK473.out 0).trans rfl
         have hcz26_1:wr.cell? ⟨gb473,1,none⟩ = some (.slice A0_1 l0_1.length c0_1):=(blk_cell BK473.out 1).trans rfl
         have hfz26_0:=blk_frozen BK473.out 0
         have hfz26_1:=blk_frozen BK473.out 1
         obtain ⟨Ao27,co27,eo27⟩:=Kd.R_slice HO_11.out
         subst eo27
         go_wp2_with (first | ((with_reducible refine gate_callee (f:=52) rfl ?_);refine goesL_ (some 42) rfl rfl Try.func52 (by kernel_rfl) rfl #[.agg #[.slice A0_0 l0_0.length c0_0,.slice A0_1 l0_1.length c0_1],.slice Ao27 x11_2.length co27] rfl (by (try simp only [List.map_toArray,List.map_cons,List.map_nil]);first | done | rfl | (simp only [List.length_drop,List.length_take];rfl)) ?_;(with_reducible refine (impl_spread.calls k2 _ _ l0_0 _ _ l0_1 _ _ x11_2 t481 _ ?side1 ?side2 ?side3 ?side4 ?side5 ?side6 A25.out).mono ?_);(case side1=>repeat (first | exact (Kd.C_below HR0_0.out HB.out) | (with_reducible refine Kd.C_alloc ?_ _) | (with_reducible refine Kd.C_drewN ?_ _) | (with_reducible refine Kd.C_drew ?_)));(case side2=>exact HC0_0.out);(case side3=>repeat (first | exact (Kd.C_below HR0_1.out HB.out) | (with_reducible refine Kd.C_alloc ?_ _) | (with_reducible refine Kd.C_drewN ?_ _) | (with_reducible refine Kd.C_drew ?_)));(case side4=>exact HC0_1.out);(case side5=>repeat (first | exact (Kd.R_reads' HO_11.out).2.2 | (with_reducible refine Kd.C_alloc ?_ _) | (with_reducible refine Kd.C_drewN ?_ _) | (with_reducible refine Kd.C_drew ?_)));(case side6=>exact (Kd.R_reads' HO_11.out).2.1);rintro e w28 ⟨v482,rfl,ho0,hb⟩;refine ⟨_,rfl,?_⟩;have n0_:=Aside0.mk (Kd.R_elder' (by (with_reducible repeat (first | apply Kd.R_alloc | apply Kd.R_drewN | apply Kd.R_drew));exact HO_10.out) (Kd.R_base ho0) hb);have n1_:=Aside0.mk (Kd.R_elder' (by (with_reducible repeat (first | apply Kd.R_alloc | apply Kd.R_drewN | apply Kd.R_drew));exact HO_11.out) (Kd.R_base ho0) hb);have n2_:=Aside0.mk (Kd.R_lower (Kd.R_new' (Kd.R_new' ho0 (Kd.R_lt (by (with_reducible repeat (first | apply Kd.R_alloc | apply Kd.R_drewN | apply Kd.R_drew));exact HO_10.out))) (Kd.R_lt (by (with_reducible repeat (first | apply Kd.R_alloc | apply Kd.R_drewN | apply Kd.R_drew));exact HO_11.out))) (below_size (by repeat (with_reducible first | exact HB.out | apply below_alloc | apply pw_below_drewN | apply below_drew1 | refine below_set ?_ GE473.out))));have n3_:=Aside0.mk (blk_below (g:=gb473) (o:=.cells #[.slice A0_0 l0_0.length c0_0,.slice A0_1 l0_1.length c0_1] 28 (0,0)) (by (with_reducible repeat (first | refine blk_drewN ?_ _ | refine blk_drew ?_ | refine blk_alloc ?_ _));exact BK473.out) hb);have n4_:=Aside0.mk (below_step (by repeat (with_reducible first | exact HB.out | apply below_alloc | apply pw_below_drewN | apply below_drew1 | refine below_set ?_ GE473.out)) hb);clear HO_10;clear HO_11;clear BK473;clear HB;have HO_10:=n0_;have HO_11:=n1_;have HO483:=n2_;have BK473:=n3_;have HB:=n4_;clear n0_ n1_ n2_ n3_ n4_;(try clear hb);(try clear hb2);(try clear hk);(try clear hi);(try clear ho0)))
         go_meet
         case rel=>exact ⟨_,(t481),H',⟨by have:=HJ4.out;have:=HK2.out;first | omega | exact Nat.le_refl _⟩,⟨by exact Kd.R_mono HO_10.out (fun _ hk=>hk.2)⟩,⟨by exact Kd.R_mono HO483.out (fun _ hk=>hk.1.2)⟩,⟨by exact BK473.out⟩,⟨by exact HB.out⟩⟩
        ·rw [if_neg c24] at H
         have c24b0:decide (0 < x12_2) = false:=decide_eq_false c24
         clear c24
         (first | rw [c24b0] | (simp only [i64_w,i32_w];rw [c24b0]) | skip)
         have H':=Aside0.mk H
         clear H
         go_wp2
         go_meet
         case rel=>exact ⟨_,(x11_2),H',⟨by have:=HJ4.out;have:=HK2.out;first | omega | exact Nat.le_refl _⟩,⟨by exact HO_10.out⟩,⟨by exact HO_11.out⟩,⟨by exact BK473.out⟩,⟨by exact HB.out⟩⟩
       case rest =>
        clear HC23
        try clear c1
        try clear c2
        try clear p2
        try clear c3
        try clear c5
        try clear c8
        try clear c9
        try clear c9b0
        try clear c16
        try clear c22
        try clear c22b0
        try clear c24
        try clear c24b0
        try clear hcz10_0
        try clear hcz10_1
        try clear hcz12_0
        try clear hcz12_1
        try clear hcz14_0
        try clear hcz14_1
        try clear hcz20_0
        try clear hcz20_1
        try clear hcz26_0
        try clear hcz26_1
        try clear hfz10_0
        try clear hfz10_1
        try clear hfz12_0
        try clear hfz12_1
        try clear hfz14_0
        try clear hfz14_1
        try clear hfz20_0
        try clear hfz20_1
        try clear hfz26_0
        try clear hfz26_1
        try clear p2
        obtain ⟨kq,x11_22,HA,HJ22,HO_10,HO_11,BK473,HB⟩:=hcut
        cases kq with
        | zero=>exact absurd HA.out (by simp [impl_ChancesMark.j2])
        | succ kj22 =>
         have H:=HA.out
         clear HA
         simp only [impl_ChancesMark.j2] at H
         have H':=Aside0.mk H
         clear H
         obtain ⟨Ao29,co29,eo29⟩:=Kd.R_slice HO_11.out
         subst eo29
         go_wp2
         go_loopg [13,45] kj22 (fun kq v13 v45 w'=>∃ (x13_4:Int) (x45_4:Int),v13 = .int .i64 x13_4∧v45 = .int .i64 x45_4∧Aside0 (impl_ChancesMark.l1 kq a2 a3 x10_2 x11_22 x12_2 x13_4 x11_22 (x11_22.length:Int) x45_4 l0_0 l0_1 = some (r1,r2))∧Aside0 (kq ≤ kj22)∧Aside0 (Kd.R (Kd.int .i64) 3 w' w.heap.size (fun k_=>some k_ ≠ ((.slice Ao29 x11_22.length co29):Value).ownBlock∧some k_ ≠ ((.slice Ao29 x11_22.length co29):Value).ownBlock) u10 x10_2)∧Aside0 (Kd.R (Kd.int .i64) 3 w' w.heap.size (fun k_=>some k_ ≠ (u10:Value).ownBlock) (.slice Ao29 x11_22.length co29) x11_22)∧Aside0 (Kd.R (Kd.int .i64) 3 w' w.heap.size (fun k_=>some k_ ≠ (u10:Value).ownBlock) (.slice Ao29 x11_22.length co29) x11_22)∧Aside0 (w'.heap[gb473]? = some (.cells #[(.slice A0_0 l0_0.length c0_0),(.slice A0_1 l0_1.length c0_1)] 28 (0,0)))∧Aside0 (Below w.heap.size w w'))
         case atStart=>exact ⟨(0),(0),(by first | rfl | (simp;done) | (simp [*];done)),(by first | rfl | (simp;done) | (simp [*];done)),H',⟨Nat.le_refl _⟩,⟨by exact Kd.R_mono HO_10.out (fun _ hk=>⟨hk,hk⟩)⟩,⟨by exact HO_11.out⟩,⟨by exact HO_11.out⟩,⟨by exact BK473.out⟩,⟨by exact HB.out⟩⟩
         case round =>
          clear H'
          try clear c1
          try clear c2
          try clear p2
          try clear c3
          try clear c5
          try clear c8
          try clear c9
          try clear c9b0
          try clear c16
          try clear c22
          try clear c22b0
          try clear c24
          try clear c24b0
          try clear hcz10_0
          try clear hcz10_1
          try clear hcz12_0
          try clear hcz12_1
          try clear hcz14_0
          try clear hcz14_1
          try clear hcz20_0
          try clear hcz20_1
          try clear hcz26_0
          try clear hcz26_1
          try clear hfz10_0
          try clear hfz10_1
          try clear hfz12_0
          try clear hfz12_1
          try clear hfz14_0
          try clear hfz14_1
          try clear hfz20_0
          try clear hfz20_1
          try clear hfz26_0
          try clear hfz26_1
          try clear p2
          obtain ⟨x13_4,x45_4,rfl,rfl,HA,HK4,HO_10,HO_11,HO_43,BK473,HB⟩:=hrel
          cases gk with
          | zero=>exact absurd HA.out (by simp [impl_ChancesMark.l1])
          | succ k4 =>
           have H:=HA.out
           clear HA
           simp only [impl_ChancesMark.l1] at H
           by_cases c30:x45_4 < (x11_22.length:Int)
           ·rw [if_pos c30] at H
            have c30b0:decide (x45_4 < (x11_22.length:Int)) = true:=decide_eq_true c30
            clear c30
            by_cases c31:0 ≤ x45_4
            ·rw [if_pos c31] at H
             have c31b0:decide (0 ≤ x45_4) = true:=decide_eq_true c31
             clear c31
             by_cases c32:x45_4 < (x11_22.length:Int)
             ·rw [if_pos c32] at H
              have c32b0:decide (x45_4 < (x11_22.length:Int)) = true:=decide_eq_true c32
              clear c32
              by_cases c33:x45_4 < (l0_0.length:Int)
              ·rw [if_pos c33] at H
               have c33b0:decide (x45_4 < (l0_0.length:Int)) = true:=decide_eq_true c33
               clear c33
               by_cases c34:(rd l0_0 x45_4) = a3
               ·rw [if_pos c34] at H
                have c34b0:((rd l0_0 x45_4) == a3) = true:=beq_iff_eq.mpr c34
                have c34b1:((rd l0_0 x45_4) != a3) = false:=bne_eq_false_iff_eq.mpr c34
                clear c34
                have H':=Aside0.mk H
                clear H
                have p484:0 ≤ (x45_4:Int):=of_decide_eq_true (by assumption)
                have q484:x45_4 < (x11_22.length:Int):=of_decide_eq_true (by assumption)
                obtain ⟨ad484,e484,hx484_0⟩:=Kd.at_int (Kd.R_reads' HO_43.out).2.2 x45_4 p484 q484
                cases e484
                replace p484:=eq_true p484
                replace q484:=eq_true q484
                have hcz35_0:wr.cell? ⟨gb473,0,none⟩ = some (.slice A0_0 l0_0.length c0_0):=(blk_cell BK473.out 0).trans rfl
                have hcz35_1:wr.cell? ⟨gb473,1,none⟩ = some (.slice A0_1 l0_1.length c0_1):=(blk_cell BK473.out 1).trans rfl
                have hfz35_0:=blk_frozen BK473.out 0
                have hfz35_1:=blk_frozen BK473.out 1
                have p485:0 ≤ (x45_4:Int):=of_decide_eq_true (by assumption)
                have q485:x45_4 < (l0_0.length:Int):=of_decide_eq_true (by assumption)
                obtain ⟨ad485,e485,hx485_0⟩:=Kd.at_int HR0_0.out x45_4 p485 q485
                cases e485
                replace hx485_0:=(HB.out.cell (World.block_lt_of_cell? w _ hx485_0)).trans hx485_0
                replace p485:=eq_true p485
                replace q485:=eq_true q485
                go_wp2
                go_roundg k4
                case measure=>have:=HJ4.out;have:=HK2.out;have:=HJ22.out;have:=HK4.out;omega
                case rel=>exact ⟨(wrap64 (x13_4 + (rd x11_22 x45_4))),(wrap64 (x45_4 + 1)),(by first | rfl | (simp;done) | (simp [*];done)),(by first | rfl | (simp;done) | (simp [*];done)),H',⟨by have:=HJ4.out;have:=HK2.out;have:=HJ22.out;have:=HK4.out;omega⟩,⟨by exact HO_10.out⟩,⟨by exact HO_11.out⟩,⟨by exact HO_43.out⟩,⟨by exact BK473.out⟩,⟨by exact HB.out⟩⟩
               ·rw [if_neg c34] at H
                have c34b0:((rd l0_0 x45_4) == a3) = false:=beq_eq_false_iff_ne.mpr c34
                have c34b1:((rd l0_0 x45_4) != a3) = true:=bne_iff_ne.mpr c34
                have H':=Aside0.mk H
                clear H
                have p484:0 ≤ (x45_4:Int):=of_decide_eq_true (by assumption)
                have q484:x45_4 < (x11_22.length:Int):=of_decide_eq_true (by assumption)
                obtain ⟨ad484,e484,hx484_0⟩:=Kd.at_int (Kd.R_reads' HO_43.out).2.2 x45_4 p484 q484
                cases e484
                replace p484:=eq_true p484
                replace q484:=eq_true q484
                have hcz36_0:wr.cell? ⟨gb473,0,none⟩ = some (.slice A0_0 l0_0.length c0_0):=(blk_cell BK473.out 0).trans rfl
                have hcz36_1:wr.cell? ⟨gb473,1,none⟩ = some (.slice A0_1 l0_1.length c0_1):=(blk_cell BK473.out 1).trans rfl
                have hfz36_0:=blk_frozen BK473.out 0
                have hfz36_1:=blk_frozen BK473.out 1
                have p485:0 ≤ (x45_4:Int):=of_decide_eq_true (by assumption)
                have q485:x45_4 < (l0_0.length:Int):=of_decide_eq_true (by assumption)
                obtain ⟨ad485,e485,hx485_0⟩:=Kd.at_int HR0_0.out x45_4 p485 q485
                cases e485
                replace hx485_0:=(HB.out.cell (World.block_lt_of_cell? w _ hx485_0)).trans hx485_0
                replace p485:=eq_true p485
                replace q485:=eq_true q485
                go_wp2
                go_roundg k4
                case measure=>have:=HJ4.out;have:=HK2.out;have:=HJ22.out;have:=HK4.out;omega
                case rel=>exact ⟨(x13_4),(wrap64 (x45_4 + 1)),(by first | rfl | (simp;done) | (simp [*];done)),(by first | rfl | (simp;done) | (simp [*];done)),H',⟨by have:=HJ4.out;have:=HK2.out;have:=HJ22.out;have:=HK4.out;omega⟩,⟨by exact HO_10.out⟩,⟨by exact HO_11.out⟩,⟨by exact HO_43.out⟩,⟨by exact BK473.out⟩,⟨by exact HB.out⟩⟩
              ·rw [if_neg c33] at H
               exact absurd H (by simp)
             ·rw [if_neg c32] at H
              exact absurd H (by simp)
            ·rw [if_neg c31] at H
             exact absurd H (by simp)
           ·rw [if_neg c30] at H
            have c30b0:decide (x45_4 < (x11_22.length:Int)) = false:=decide_eq_false c30
            clear c30
            by_cases c37:x10_2.length < 17592186044416
            ·rw [if_pos c37] at H
             have LMc37:=Aside0.mk c37
             clear c37
             obtain ⟨y486,hy486⟩:∃ y_:List Int,y_ = (x10_2 ++ [x13_4]):=⟨_,rfl⟩
             replace H:(impl_ChancesMark.l0 k4 a2 a3 y486 x11_22 (wrap64 (x12_2 + 1)) l0_0 l0_1) = some (r1,r2):=by rw [hy486];exact H
             have Ny486:=Aside0.mk hy486
             clear hy486
             have H':=Aside0.mk H
             clear H
             go_wp2_with (first | ((with_reducible refine gate_builtin (b:=.append) (xs:=#[.tmp 61,.tmp 63]) rfl ?_);at_builtin;refine Kd.R_append (Kd.int .i64) (w0:=w) w.heap.size rfl (.tmp 61) (.tmp 63) 22 3 (.int .i64 0) 8 rfl Try.underlying22 info3 rfl (by decide) (by omega) u10 x10_2 x13_4 [.int .i64 x13_4] (fun k_=>some k_ ≠ (.slice Ao29 x11_22.length co29:Value).ownBlock∧some k_ ≠ (.slice Ao29 x11_22.length co29:Value).ownBlock) (fun _=>False) rfl rfl ?aP (fun _ hk=>hk.elim) ?aF ?aO ?aB ?aS ?aL ?_;(case aP=>exact rfl);(case aB=>exact (by exact HB.out));(case aF=>exact (fun k_ hk=>⟨Kd.fresh' (Kd.R_lt (by exact HO_11.out)) k_ hk,Kd.fresh' (Kd.R_lt (by exact HO_43.out)) k_ hk⟩));(case aO=>exact (by exact HO_10.out));(case aS=>exact (below_size (by exact HB.out)));(case aL=>have:=LMc37.out;omega);intro v487 w38 ho hb hg hat;rw [← Ny486.out] at ho;have n0_:=Aside0.mk (Kd.R_after (ok:=(fun _=>True)) (by exact Kd.R_mono HO_11.out (fun _ hk=>⟨trivial,hk⟩)) hg hat);have n1_:=Aside0.mk (Kd.R_after (ok:=(fun _=>True)) (by exact Kd.R_mono HO_43.out (fun _ hk=>⟨trivial,hk⟩)) hg hat);have n2_:=Aside0.mk (blk_grown (g:=gb473) (o:=.cells #[.slice A0_0 l0_0.length c0_0,.slice A0_1 l0_1.length c0_1] 28 (0,0)) (by exact BK473.out) hg (Kd.R_ne HO_10.out BK473.out (by decide)));have n3_:=Aside0.mk (hb);have n4_:=Aside0.mk (ho);clear HO_11;clear HO_43;clear BK473;clear HB;clear HO_10;have HO_11:=n0_;have HO_43:=n1_;have BK473:=n2_;have HB:=n3_;have HO488:=n4_;clear n0_ n1_ n2_ n3_ n4_;clear ho hb hg hat))
             go_roundg k4
             case measure=>have:=HJ4.out;have:=HK2.out;have:=HJ22.out;have:=HK4.out;omega
             case rel=>exact ⟨(y486),(x11_22),(wrap64 (x12_2 + 1)),(by first | rfl | (simp;done) | (simp [*];done)),H',⟨by have:=HJ4.out;have:=HK2.out;have:=HJ22.out;have:=HK4.out;omega⟩,⟨by exact Kd.R_mono HO488.out (fun _ hk=>hk.1)⟩,⟨by exact Kd.R_mono HO_11.out (fun _ hk=>hk.2)⟩,⟨by exact BK473.out⟩,⟨by exact HB.out⟩⟩
            ·rw [if_neg c37] at H
             exact absurd H (by simp)
      ·rw [if_neg c22] at H
       have c22b0:decide (x12_2 ≤ a2) = false:=decide_eq_false c22
       clear c22
       simp only [Option.some.injEq,Prod.mk.injEq] at H
       obtain ⟨rfl,rfl⟩:=H
       go_wp2
       go_ret2
       exact ⟨_,rfl,by exact Kd.R_mono HO_10.out (fun _ hk=>trivial),by exact HB.out⟩
def impl_ChancesClasses.f (k:Nat) (l0_0:List Int) (l0_1:List (List Int)):Option (List Int):=(impl_ChancesOk.f k l0_0 l0_1).bind fun t232=>(if t232 = true then ((impl_chanceClasses.f k l0_0 l0_1).bind fun t233=>(some t233)) else (some ([]:List Int)))
theorem impl_ChancesClasses.mono:∀ a0 a1 k,LeO (impl_ChancesClasses.f k a0 a1) (impl_ChancesClasses.f (k + 1) a0 a1):=by
 intro a0 a1 k
 unfold impl_ChancesClasses.f
 repeat' first
   | (with_reducible exact impl_ChancesOk.mono _ _ _)
   | (with_reducible exact impl_chanceClasses.mono _ _ _)
   | (with_reducible exact LeO.refl _)
   | (with_reducible exact LeO.none _)
   | (with_reducible refine LeO.ite ?_ ?_)
   | (with_reducible refine LeO.bind ?_ (fun _=>?_))
   | exact impl_ChancesOk.mono _ _ _
   | exact impl_chanceClasses.mono _ _ _
   | exact LeO.none _
   | refine LeO.ite ?_ ?_
   | refine LeO.bind ?_ (fun _=>?_)
set_option maxHeartbeats 8000000 in
set_option maxRecDepth 100000 in
theorem impl_ChancesClasses.calls (k:Nat) (A0_0:Option Addr) (c0_0:Nat) (l0_0:List Int) (A0_1:Option Addr) (c0_1:Nat) (l0_1:List (List Int)) (r:List Int) (w:World) (hr0_0:Kd.C (Kd.int .i64) w A0_0 l0_0.length l0_0) (hc0_0:l0_0.length ≤ c0_0) (hr0_1:Kd.C (Kd.slice 3 (Kd.int .i64)) w A0_1 l0_1.length l0_1) (hc0_1:l0_1.length ≤ c0_1) (h:impl_ChancesClasses.f k l0_0 l0_1 = some r) :
  Calls Try.prog 20 #[.agg #[.slice A0_0 l0_0.length c0_0,.slice A0_1 l0_1.length c0_1]] w fun e w'=>∃ v0_:Value,e = .returned (v0_)∧Kd.R (Kd.int .i64) 3 w' w.heap.size (fun _=>True) v0_ r∧Below w.heap.size w w':=by
 have hu28:=Try.underlying28
 have HR0_0:=Aside0.mk hr0_0
 have HC0_0:=Aside0.mk hc0_0
 clear hr0_0 hc0_0
 have HR0_1:=Aside0.mk hr0_1
 have HC0_1:=Aside0.mk hc0_1
 clear hr0_1 hc0_1
 have HB:=Aside0.mk (Below.refl w.heap.size w)
 have H:((impl_ChancesOk.f k l0_0 l0_1).bind fun t232=>(if t232 = true then ((impl_chanceClasses.f k l0_0 l0_1).bind fun t233=>(some t233)) else (some ([]:List Int)))) = some r:=h
 clear h
 replace H:=Option.bind_eq_some_iff.mp H
 obtain ⟨t232,A20,H⟩:=H
 replace H:(if t232 = true then ((impl_chanceClasses.f k l0_0 l0_1).bind fun t233=>(some t233)) else (some ([]:List Int))) = some r:=H
 have A2:=Aside0.mk A20
 clear A20
 by_cases c3:t232 = true
 ·subst c3
  have H1:((impl_chanceClasses.f k l0_0 l0_1).bind fun t233=>(some t233)) = some r:=by rw [if_pos rfl] at H;exact H
  clear H
  have H:=H1
  clear H1
  replace H:=Option.bind_eq_some_iff.mp H
  obtain ⟨t233,A40,H⟩:=H
  replace H:(some t233) = some r:=H
  have A4:=Aside0.mk A40
  clear A40
  obtain rfl:=Option.some.inj H
  go_enter Try.func20,Try.ntmps20
  go_wp2_with (first | ((with_reducible refine gate_dst (N:=1) rfl ?_);refine box_event ?hg (N:=1) ?hd (cs:=#[.slice A0_0 l0_0.length c0_0,.slice A0_1 l0_1.length c0_1]) (t:=28) ?hr ?_;(case hd=>rfl);(case hg=>rfl);(case hr=>first | (go_simp;done) | (go_simp;rfl));intro gb231 hg w5 hbox hb;have n0_:=Aside0.mk (below_step (by repeat (with_reducible first | exact HB.out | apply below_alloc | apply pw_below_drewN | apply below_drew1)) hb);have n1_:=Aside0.mk (hbox);have n2_:=Aside0.mk ((by rw [hg];exact (below_size (by repeat (with_reducible first | exact HB.out | apply below_alloc | apply pw_below_drewN | apply below_drew1))):w.heap.size ≤ gb231));have n3_:=Aside0.mk ((by rw [hg];exact (below_size (by repeat (with_reducible first | exact HB.out | apply below_alloc | apply pw_below_drewN | apply below_drew1))):w.heap.size ≤ gb231));clear HB;have HB:=n0_;have BK231:=n1_;have GW231:=n2_;have GE231:=n3_;clear n0_ n1_ n2_ n3_;clear hb hbox hg;have hcz6_0:w5.cell? ⟨gb231,0,none⟩ = some (.slice A0_0 l0_0.length c0_0):=(blk_cell BK231.out 0).trans rfl;have hcz6_1:w5.cell? ⟨gb231,1,none⟩ = some (.slice A0_1 l0_1.length c0_1):=(blk_cell BK231.out 1).trans rfl;have hfz6_0:=blk_frozen BK231.out 0;have hfz6_1:=blk_frozen BK231.out 1) | ((with_reducible refine gate_callee (f:=16) rfl ?_);refine goesL_ (some 4) rfl rfl Try.func16 (by kernel_rfl) rfl #[.agg #[.slice A0_0 l0_0.length c0_0,.slice A0_1 l0_1.length c0_1]] rfl (by (try simp only [List.map_toArray,List.map_cons,List.map_nil]);first | done | rfl | (simp only [List.length_drop,List.length_take];rfl)) ?_;(with_reducible refine (impl_ChancesOk.calls k _ _ l0_0 _ _ l0_1 true _ ?side1 ?side2 ?side3 ?side4 A2.out).mono ?_);(case side1=>repeat (first | exact (Kd.C_below HR0_0.out HB.out) | (with_reducible refine Kd.C_alloc ?_ _) | (with_reducible refine Kd.C_drewN ?_ _) | (with_reducible refine Kd.C_drew ?_)));(case side2=>exact HC0_0.out);(case side3=>repeat (first | exact (Kd.C_below HR0_1.out HB.out) | (with_reducible refine Kd.C_alloc ?_ _) | (with_reducible refine Kd.C_drewN ?_ _) | (with_reducible refine Kd.C_drew ?_)));(case side4=>exact HC0_1.out);rintro e w7 ⟨rfl,hb⟩;refine ⟨_,rfl,?_⟩;have n0_:=Aside0.mk (blk_below (g:=gb231) (o:=.cells #[.slice A0_0 l0_0.length c0_0,.slice A0_1 l0_1.length c0_1] 28 (0,0)) (by (with_reducible repeat (first | refine blk_drewN ?_ _ | refine blk_drew ?_ | refine blk_alloc ?_ _));exact BK231.out) hb);have n1_:=Aside0.mk (below_step (by repeat (with_reducible first | exact HB.out | apply below_alloc | apply pw_below_drewN | apply below_drew1 | refine below_set ?_ GE231.out)) hb);clear BK231;clear HB;have BK231:=n0_;have HB:=n1_;clear n0_ n1_;(try clear hb);(try clear hb2);(try clear hk);(try clear hi);have hcz8_0:w7.cell? ⟨gb231,0,none⟩ = some (.slice A0_0 l0_0.length c0_0):=(blk_cell BK231.out 0).trans rfl;have hcz8_1:w7.cell? ⟨gb231,1,none⟩ = some (.slice A0_1 l0_1.length c0_1):=(blk_cell BK231.out 1).trans rfl;have hfz8_0:=blk_frozen BK231.out 0;have hfz8_1:=blk_frozen BK231.out 1) | ((with_reducible refine gate_callee (f:=46) rfl ?_);refine goesL_ (some 7) rfl rfl Try.func46 (by kernel_rfl) rfl #[.agg #[.slice A0_0 l0_0.length c0_0,.slice A0_1 l0_1.length c0_1]] rfl (by (try simp only [List.map_toArray,List.map_cons,List.map_nil]);first | done | rfl | (simp only [List.length_drop,List.length_take];rfl)) ?_;(with_reducible refine (impl_chanceClasses.calls k _ _ l0_0 _ _ l0_1 t233 _ ?side1 ?side2 ?side3 ?side4 A4.out).mono ?_);(case side1=>repeat (first | exact (Kd.C_below HR0_0.out HB.out) | (with_reducible refine Kd.C_alloc ?_ _) | (with_reducible refine Kd.C_drewN ?_ _) | (with_reducible refine Kd.C_drew ?_)));(case side2=>exact HC0_0.out);(case side3=>repeat (first | exact (Kd.C_below HR0_1.out HB.out) | (with_reducible refine Kd.C_alloc ?_ _) | (with_reducible refine Kd.C_drewN ?_ _) | (with_reducible refine Kd.C_drew ?_)));(case side4=>exact HC0_1.out);rintro e w9 ⟨v234,rfl,ho0,hb⟩;refine ⟨_,rfl,?_⟩;have n0_:=Aside0.mk (Kd.R_lower ho0 (below_size (by repeat (with_reducible first | exact HB.out | apply below_alloc | apply pw_below_drewN | apply below_drew1 | refine below_set ?_ GE231.out))));have n1_:=Aside0.mk (blk_below (g:=gb231) (o:=.cells #[.slice A0_0 l0_0.length c0_0,.slice A0_1 l0_1.length c0_1] 28 (0,0)) (by (with_reducible repeat (first | refine blk_drewN ?_ _ | refine blk_drew ?_ | refine blk_alloc ?_ _));exact BK231.out) hb);have n2_:=Aside0.mk (below_step (by repeat (with_reducible first | exact HB.out | apply below_alloc | apply pw_below_drewN | apply below_drew1 | refine below_set ?_ GE231.out)) hb);clear BK231;clear HB;have HO235:=n0_;have BK231:=n1_;have HB:=n2_;clear n0_ n1_ n2_;(try clear hb);(try clear hb2);(try clear hk);(try clear hi);(try clear ho0)))
  go_ret
  exact ⟨_,rfl,by exact HO235.out,by exact HB.out⟩
 ·replace c3:=Bool.eq_false_iff.mpr c3
  subst c3
  have H1:(some ([]:List Int)) = some r:=by rw [if_neg (show ¬ (false = true) by decide)] at H;exact H
  clear H
  have H:=H1
  clear H1
  obtain rfl:=Option.some.inj H
  go_enter Try.func20,Try.ntmps20
  go_wp2_with (first | ((with_reducible refine gate_dst (N:=1) rfl ?_);refine box_event ?hg (N:=1) ?hd (cs:=#[.slice A0_0 l0_0.length c0_0,.slice A0_1 l0_1.length c0_1]) (t:=28) ?hr ?_;(case hd=>rfl);(case hg=>rfl);(case hr=>first | (go_simp;done) | (go_simp;rfl));intro gb231 hg w10 hbox hb;have n0_:=Aside0.mk (below_step (by repeat (with_reducible first | exact HB.out | apply below_alloc | apply pw_below_drewN | apply below_drew1)) hb);have n1_:=Aside0.mk (hbox);have n2_:=Aside0.mk ((by rw [hg];exact (below_size (by repeat (with_reducible first | exact HB.out | apply below_alloc | apply pw_below_drewN | apply below_drew1))):w.heap.size ≤ gb231));have n3_:=Aside0.mk ((by rw [hg];exact (below_size (by repeat (with_reducible first | exact HB.out | apply below_alloc | apply pw_below_drewN | apply below_drew1))):w.heap.size ≤ gb231));clear HB;have HB:=n0_;have BK231:=n1_;have GW231:=n2_;have GE231:=n3_;clear n0_ n1_ n2_ n3_;clear hb hbox hg;have hcz11_0:w10.cell? ⟨gb231,0,none⟩ = some (.slice A0_0 l0_0.length c0_0):=(blk_cell BK231.out 0).trans rfl;have hcz11_1:w10.cell? ⟨gb231,1,none⟩ = some (.slice A0_1 l0_1.length c0_1):=(blk_cell BK231.out 1).trans rfl;have hfz11_0:=blk_frozen BK231.out 0;have hfz11_1:=blk_frozen BK231.out 1) | ((with_reducible refine gate_callee (f:=16) rfl ?_);refine goesL_ (some 4) rfl rfl Try.func16 (by kernel_rfl) rfl #[.agg #[.slice A0_0 l0_0.length c0_0,.slice A0_1 l0_1.length c0_1]] rfl (by (try simp only [List.map_toArray,List.map_cons,List.map_nil]);first | done | rfl | (simp only [List.length_drop,List.length_take];rfl)) ?_;(with_reducible refine (impl_ChancesOk.calls k _ _ l0_0 _ _ l0_1 false _ ?side1 ?side2 ?side3 ?side4 A2.out).mono ?_);(case side1=>repeat (first | exact (Kd.C_below HR0_0.out HB.out) | (with_reducible refine Kd.C_alloc ?_ _) | (with_reducible refine Kd.C_drewN ?_ _) | (with_reducible refine Kd.C_drew ?_)));(case side2=>exact HC0_0.out);(case side3=>repeat (first | exact (Kd.C_below HR0_1.out HB.out) | (with_reducible refine Kd.C_alloc ?_ _) | (with_reducible refine Kd.C_drewN ?_ _) | (with_reducible refine Kd.C_drew ?_)));(case side4=>exact HC0_1.out);rintro e w12 ⟨rfl,hb⟩;refine ⟨_,rfl,?_⟩;have n0_:=Aside0.mk (blk_below (g:=gb231) (o:=.cells #[.slice A0_0 l0_0.length c0_0,.slice A0_1 l0_1.length c0_1] 28 (0,0)) (by (with_reducible repeat (first | refine blk_drewN ?_ _ | refine blk_drew ?_ | refine blk_alloc ?_ _));exact BK231.out) hb);have n1_:=Aside0.mk (below_step (by repeat (with_reducible first | exact HB.out | apply below_alloc | apply pw_below_drewN | apply below_drew1 | refine below_set ?_ GE231.out)) hb);clear BK231;clear HB;have BK231:=n0_;have HB:=n1_;clear n0_ n1_;(try clear hb);(try clear hb2);(try clear hk);(try clear hi)))
  go_ret
  exact ⟨_,rfl,Kd.R_nil _ _ _ _ _,by exact HB.out⟩
mutual
def impl_ChancesFold.l0:Nat → List Int → List Int → Int → Int → List Int → List (List Int) → List Int → List (List Int) → Option (List Int × (List (List Int)) × Bool)
 | 0,_,_,_,_,_,_,_,_=>none
 | k + 1,x4,x19,x20,x21,x206000,x206001,x212000,x212001=>if x21 < x20 then (if 0 ≤ x21 then (if x21 < (x19.length:Int) then (if (rd x19 x21) = x21 then ((impl_sums.f k x206000 x206001 x4 x21).bind fun t216=>(impl_ChancesFold.l1 k x4 x21 (([]:List Int)) t216 x19 x20 x21 x4 (x4.length:Int) 0 x206000 x206001 x212000 x212001)) else (impl_ChancesFold.l0 k x4 x19 x20 (wrap64 (x21 + 1)) x206000 x206001 x212000 x212001)) else (none)) else (none)) else (some (x212000,x212001,true))
def impl_ChancesFold.l1:Nat → List Int → Int → List Int → List Int → List Int → Int → Int → List Int → Int → Int → List Int → List (List Int) → List Int → List (List Int) → Option (List Int × (List (List Int)) × Bool)
 | 0,_,_,_,_,_,_,_,_,_,_,_,_,_,_=>none
 | k + 1,x4,x6,x8,x9,x19,x20,x21,x34,x35,x36,x206000,x206001,x212000,x212001=>if x36 < x35 then (if 0 ≤ x36 then (if x36 < (x34.length:Int) then (if (rd x34 x36) = x36 then (if x36 < (x9.length:Int) then (if x8.length < 17592186044416 then (impl_ChancesFold.l1 k x4 x6 (x8 ++ [rd x9 x36]) x9 x19 x20 x21 x34 x35 (wrap64 (x36 + 1)) x206000 x206001 x212000 x212001) else (none)) else (none)) else (impl_ChancesFold.l1 k x4 x6 x8 x9 x19 x20 x21 x34 x35 (wrap64 (x36 + 1)) x206000 x206001 x212000 x212001)) else (none)) else (none)) else (if 0 ≤ x6 then (if x6 < (x206000.length:Int) then (if x212000.length < 17592186044416 then (if x212001.length < 5864062014805 then (impl_ChancesFold.l0 k x4 x19 x20 (wrap64 (x21 + 1)) x206000 x206001 (x212000 ++ [rd x206000 x6]) (x212001 ++ [x8])) else (none)) else (none)) else (none)) else (none))
end
def impl_ChancesFold.f (k:Nat) (l0_0:List Int) (l0_1:List (List Int)):Option (List Int × (List (List Int)) × Bool):=(impl_ChancesOk.f k l0_0 l0_1).bind fun t207=>(if t207 = true then ((impl_chanceClasses.f k l0_0 l0_1).bind fun t208=>(impl_ChancesFold.l0 k t208 t208 (t208.length:Int) 0 l0_0 l0_1 ([]:List Int) ([]:List (List Int)))) else (some (([]:List Int),([]:List (List Int)),false)))
theorem impl_ChancesFold.mono_l:∀ k,(∀ y0 y1 y2 y3 y4 y5 y6 y7,LeO (impl_ChancesFold.l0 k y0 y1 y2 y3 y4 y5 y6 y7) (impl_ChancesFold.l0 (k + 1) y0 y1 y2 y3 y4 y5 y6 y7))∧(∀ y0 y1 y2 y3 y4 y5 y6 y7 y8 y9 y10 y11 y12 y13,LeO (impl_ChancesFold.l1 k y0 y1 y2 y3 y4 y5 y6 y7 y8 y9 y10 y11 y12 y13) (impl_ChancesFold.l1 (k + 1) y0 y1 y2 y3 y4 y5 y6 y7 y8 y9 y10 y11 y12 y13))
 | 0=>⟨fun _ _ _ _ _ _ _ _ r h=>by simp [impl_ChancesFold.l0] at h,fun _ _ _ _ _ _ _ _ _ _ _ _ _ _ r h=>by simp [impl_ChancesFold.l1] at h⟩
 | k + 1=>by
  obtain ⟨ih0,ih1⟩:=impl_ChancesFold.mono_l k
  refine ⟨?_,?_⟩
  ·intro y0 y1 y2 y3 y4 y5 y6 y7
   unfold impl_ChancesFold.l0
   repeat' first
   | (with_reducible exact ih0 _ _ _ _ _ _ _ _)
   | (with_reducible exact ih1 _ _ _ _ _ _ _ _ _ _ _ _ _ _)
   | (with_reducible exact impl_ChancesOk.mono _ _ _)
   | (with_reducible exact impl_chanceClasses.mono _ _ _)
   | (with_reducible exact impl_sums.mono _ _ _ _ _)
   | (with_reducible exact LeO.refl _)
   | (with_reducible exact LeO.none _)
   | (with_reducible refine LeO.ite ?_ ?_)
   | (with_reducible refine LeO.bind ?_ (fun _=>?_))
   | exact ih0 _ _ _ _ _ _ _ _
   | exact ih1 _ _ _ _ _ _ _ _ _ _ _ _ _ _
   | exact impl_ChancesOk.mono _ _ _
   | exact impl_chanceClasses.mono _ _ _
   | exact impl_sums.mono _ _ _ _ _
   | exact LeO.none _
   | refine LeO.ite ?_ ?_
   | refine LeO.bind ?_ (fun _=>?_)
  ·intro y0 y1 y2 y3 y4 y5 y6 y7 y8 y9 y10 y11 y12 y13
   unfold impl_ChancesFold.l1
   repeat' first
   | (with_reducible exact ih0 _ _ _ _ _ _ _ _)
   | (with_reducible exact ih1 _ _ _ _ _ _ _ _ _ _ _ _ _ _)
   | (with_reducible exact impl_ChancesOk.mono _ _ _)
   | (with_reducible exact impl_chanceClasses.mono _ _ _)
   | (with_reducible exact impl_sums.mono _ _ _ _ _)
   | (with_reducible exact LeO.refl _)
   | (with_reducible exact LeO.none _)
   | (with_reducible refine LeO.ite ?_ ?_)
   | (with_reducible refine LeO.bind ?_ (fun _=>?_))
   | exact ih0 _ _ _ _ _ _ _ _
   | exact ih1 _ _ _ _ _ _ _ _ _ _ _ _ _ _
   | exact impl_ChancesOk.mono _ _ _
   | exact impl_chanceClasses.mono _ _ _
   | exact impl_sums.mono _ _ _ _ _
   | exact LeO.none _
   | refine LeO.ite ?_ ?_
   | refine LeO.bind ?_ (fun _=>?_)
theorem impl_ChancesFold.mono:∀ a0 a1 k,LeO (impl_ChancesFold.f k a0 a1) (impl_ChancesFold.f (k + 1) a0 a1):=by
 intro a0 a1 k
 obtain ⟨ih0,ih1⟩:=impl_ChancesFold.mono_l k
 unfold impl_ChancesFold.f
 repeat' first
   | (with_reducible exact ih0 _ _ _ _ _ _ _ _)
   | (with_reducible exact ih1 _ _ _ _ _ _ _ _ _ _ _ _ _ _)
   | (with_reducible exact impl_ChancesOk.mono _ _ _)
   | (with_reducible exact impl_chanceClasses.mono _ _ _)
   | (with_reducible exact impl_sums.mono _ _ _ _ _)
   | (with_reducible exact LeO.refl _)
   | (with_reducible exact LeO.none _)
   | (with_reducible refine LeO.ite ?_ ?_)
   | (with_reducible refine LeO.bind ?_ (fun _=>?_))
   | exact ih0 _ _ _ _ _ _ _ _
   | exact ih1 _ _ _ _ _ _ _ _ _ _ _ _ _ _
   | exact impl_ChancesOk.mono _ _ _
   | exact impl_chanceClasses.mono _ _ _
   | exact impl_sums.mono _ _ _ _ _
   | exact LeO.none _
   | refine LeO.ite ?_ ?_
   | refine LeO.bind ?_ (fun _=>?_)
def impl_ChancesFold.T15:Bool × List (List Nat × List Nat):=(true,[([],[]),([0],[0]),([],[]),([2],[2]),([],[]),([3,4],[3,4]),([5],[5]),([6],[6]),([1,7],[1,7]),([0,1,2,3,4,5,6,7,8],[]),([9,8,8,0,1,2,3,4,5,6,7,8],[8,9])])
def impl_ChancesFold.B15:List Nat:=[0,1,0,4,0,28,60,124,255,511,1023]
theorem impl_ChancesFold.tab15:rtab .any (opsOf Try.f19 15) = impl_ChancesFold.T15:=by kernel_rfl
theorem impl_ChancesFold.bits15:waitsOk impl_ChancesFold.T15.2 impl_ChancesFold.B15 = true:=by kernel_rfl
set_option maxHeartbeats 8000000 in
set_option maxRecDepth 100000 in
theorem impl_ChancesFold.calls (k:Nat) (A0_0:Option Addr) (c0_0:Nat) (l0_0:List Int) (A0_1:Option Addr) (c0_1:Nat) (l0_1:List (List Int)) (r1:List Int) (r2:List (List Int)) (r3:Bool) (w:World) (hr0_0:Kd.C (Kd.int .i64) w A0_0 l0_0.length l0_0) (hc0_0:l0_0.length ≤ c0_0) (hr0_1:Kd.C (Kd.slice 3 (Kd.int .i64)) w A0_1 l0_1.length l0_1) (hc0_1:l0_1.length ≤ c0_1) (h:impl_ChancesFold.f k l0_0 l0_1 = some (r1,r2,r3)) :
  Calls Try.prog 19 #[.agg #[.slice A0_0 l0_0.length c0_0,.slice A0_1 l0_1.length c0_1]] w fun e w'=>∃ v0_ v1_:Value,e = .returned (.tuple #[.agg #[v0_,v1_],.bool r3])∧Kd.R (Kd.int .i64) 3 w' w.heap.size (fun k_=>(w.heap.size ≤ k_)) v0_ r1∧Kd.N (Kd.slice 3 (Kd.int .i64)) 22 w' w.heap.size (fun k_=>(w.heap.size ≤ k_)∧some k_ ≠ (v0_:Value).ownBlock) v1_ r2∧Below w.heap.size w w':=by
 have hu28:=Try.underlying28
 have HR0_0:=Aside0.mk hr0_0
 have HC0_0:=Aside0.mk hc0_0
 clear hr0_0 hc0_0
 have HR0_1:=Aside0.mk hr0_1
 have HC0_1:=Aside0.mk hc0_1
 clear hr0_1 hc0_1
 have HB:=Aside0.mk (Below.refl w.heap.size w)
 have H:((impl_ChancesOk.f k l0_0 l0_1).bind fun t207=>(if t207 = true then ((impl_chanceClasses.f k l0_0 l0_1).bind fun t208=>(impl_ChancesFold.l0 k t208 t208 (t208.length:Int) 0 l0_0 l0_1 ([]:List Int) ([]:List (List Int)))) else (some (([]:List Int),([]:List (List Int)),false)))) = some (r1,r2,r3):=h
 clear h
 replace H:=Option.bind_eq_some_iff.mp H
 obtain ⟨t207,A20,H⟩:=H
 replace H:(if t207 = true then ((impl_chanceClasses.f k l0_0 l0_1).bind fun t208=>(impl_ChancesFold.l0 k t208 t208 (t208.length:Int) 0 l0_0 l0_1 ([]:List Int) ([]:List (List Int)))) else (some (([]:List Int),([]:List (List Int)),false))) = some (r1,r2,r3):=H
 have A2:=Aside0.mk A20
 clear A20
 by_cases c3:t207 = true
 ·subst c3
  have H1:((impl_chanceClasses.f k l0_0 l0_1).bind fun t208=>(impl_ChancesFold.l0 k t208 t208 (t208.length:Int) 0 l0_0 l0_1 ([]:List Int) ([]:List (List Int)))) = some (r1,r2,r3):=by rw [if_pos rfl] at H;exact H
  clear H
  have H:=H1
  clear H1
  replace H:=Option.bind_eq_some_iff.mp H
  obtain ⟨t208,A40,H⟩:=H
  replace H:(impl_ChancesFold.l0 k t208 t208 (t208.length:Int) 0 l0_0 l0_1 ([]:List Int) ([]:List (List Int))) = some (r1,r2,r3):=H
  have A4:=Aside0.mk A40
  clear A40
  have H':=Aside0.mk H
  clear H
  go_enter Try.func19,Try.ntmps19
  go_wp2_with (first | ((with_reducible refine gate_dst (N:=1) rfl ?_);refine box_event ?hg (N:=1) ?hd (cs:=#[.slice A0_0 l0_0.length c0_0,.slice A0_1 l0_1.length c0_1]) (t:=28) ?hr ?_;(case hd=>rfl);(case hg=>rfl);(case hr=>first | (go_simp;done) | (go_simp;rfl));intro gb205 hg w5 hbox hb;have n0_:=Aside0.mk (below_step (by repeat (with_reducible first | exact HB.out | apply below_alloc | apply pw_below_drewN | apply below_drew1)) hb);have n1_:=Aside0.mk (hbox);have n2_:=Aside0.mk ((by rw [hg];exact (below_size (by repeat (with_reducible first | exact HB.out | apply below_alloc | apply pw_below_drewN | apply below_drew1))):w.heap.size ≤ gb205));have n3_:=Aside0.mk ((by rw [hg];exact (below_size (by repeat (with_reducible first | exact HB.out | apply below_alloc | apply pw_below_drewN | apply below_drew1))):w.heap.size ≤ gb205));clear HB;have HB:=n0_;have BK205:=n1_;have GW205:=n2_;have GE205:=n3_;clear n0_ n1_ n2_ n3_;clear hb hbox hg) | ((with_reducible refine gate_dst (N:=2) rfl ?_);refine box_event ?hg (N:=2) ?hd (cs:=#[.slice none 0 0,.slice none 0 0]) (t:=28) ?hr ?_;(case hd=>rfl);(case hg=>rfl);(case hr=>first | (go_simp;done) | (go_simp;rfl));intro gb206 hg w6 hbox hb;have n0_:=Aside0.mk (blk_below (g:=gb205) (o:=.cells #[.slice A0_0 l0_0.length c0_0,.slice A0_1 l0_1.length c0_1] 28 (0,0)) (by (with_reducible repeat (first | refine blk_drewN ?_ _ | refine blk_drew ?_ | refine blk_alloc ?_ _));exact BK205.out) hb);have n1_:=Aside0.mk (below_step (by repeat (with_reducible first | exact HB.out | apply below_alloc | apply pw_below_drewN | apply below_drew1 | refine below_set ?_ GE205.out)) hb);have n2_:=Aside0.mk (hbox);have n3_:=Aside0.mk ((by rw [hg];exact (below_size (by repeat (with_reducible first | exact HB.out | apply below_alloc | apply pw_below_drewN | apply below_drew1 | refine below_set ?_ GE205.out))):w.heap.size ≤ gb206));have n4_:=Aside0.mk ((by rw [hg];exact (below_size (by repeat (with_reducible first | exact HB.out | apply below_alloc | apply pw_below_drewN | apply below_drew1 | refine below_set ?_ GE205.out))):w.heap.size ≤ gb206));have n5_:=Aside0.mk ((by rw [hg];exact Nat.ne_of_lt (blk_lt (g:=gb205) (o:=.cells #[.slice A0_0 l0_0.length c0_0,.slice A0_1 l0_1.length c0_1] 28 (0,0)) (by (with_reducible repeat (first | refine blk_drewN ?_ _ | refine blk_drew ?_ | refine blk_alloc ?_ _));exact BK205.out)):gb205 ≠ gb206));have n6_:=Aside0.mk ((by rw [hg];exact Nat.ne_of_gt (blk_lt (g:=gb205) (o:=.cells #[.slice A0_0 l0_0.length c0_0,.slice A0_1 l0_1.length c0_1] 28 (0,0)) (by (with_reducible repeat (first | refine blk_drewN ?_ _ | refine blk_drew ?_ | refine blk_alloc ?_ _));exact BK205.out)):gb206 ≠ gb205));clear BK205;clear HB;have BK205:=n0_;have HB:=n1_;have BK206:=n2_;have GW206:=n3_;have GE206:=n4_;have NB205_206:=n5_;have NB206_205:=n6_;clear n0_ n1_ n2_ n3_ n4_ n5_ n6_;clear hb hbox hg;have hnb7:=NB205_206.out;have hnc7:=NB206_205.out;have hcz8_0:w6.cell? ⟨gb205,0,none⟩ = some (.slice A0_0 l0_0.length c0_0):=(blk_cell BK205.out 0).trans rfl;have hcz8_1:w6.cell? ⟨gb205,1,none⟩ = some (.slice A0_1 l0_1.length c0_1):=(blk_cell BK205.out 1).trans rfl;have hfz8_0:=blk_frozen BK205.out 0;have hfz8_1:=blk_frozen BK205.out 1) | ((with_reducible refine gate_callee (f:=16) rfl ?_);refine goesL_ (some 13) rfl rfl Try.func16 (by kernel_rfl) rfl #[.agg #[.slice A0_0 l0_0.length c0_0,.slice A0_1 l0_1.length c0_1]] rfl (by (try simp only [List.map_toArray,List.map_cons,List.map_nil]);first | done | rfl | (simp only [List.length_drop,List.length_take];rfl)) ?_;(with_reducible refine (impl_ChancesOk.calls k _ _ l0_0 _ _ l0_1 true _ ?side1 ?side2 ?side3 ?side4 A2.out).mono ?_);(case side1=>repeat (first | exact (Kd.C_below HR0_0.out HB.out) | (with_reducible refine Kd.C_alloc ?_ _) | (with_reducible refine Kd.C_drewN ?_ _) | (with_reducible refine Kd.C_drew ?_)));(case side2=>exact HC0_0.out);(case side3=>repeat (first | exact (Kd.C_below HR0_1.out HB.out) | (with_reducible refine Kd.C_alloc ?_ _) | (with_reducible refine Kd.C_drewN ?_ _) | (with_reducible refine Kd.C_drew ?_)));(case side4=>exact HC0_1.out);rintro e w9 ⟨rfl,hb⟩;refine ⟨_,rfl,?_⟩;have n0_:=Aside0.mk (blk_below (g:=gb205) (o:=.cells #[.slice A0_0 l0_0.length c0_0,.slice A0_1 l0_1.length c0_1] 28 (0,0)) (by (with_reducible repeat (first | refine blk_drewN ?_ _ | refine blk_drew ?_ | refine blk_alloc ?_ _));exact BK205.out) hb);have n1_:=Aside0.mk (blk_below (g:=gb206) (o:=.cells #[.slice none 0 0,.slice none 0 0] 28 (0,0)) (by (with_reducible repeat (first | refine blk_drewN ?_ _ | refine blk_drew ?_ | refine blk_alloc ?_ _));exact BK206.out) hb);have n2_:=Aside0.mk (below_step (by repeat (with_reducible first | exact HB.out | apply below_alloc | apply pw_below_drewN | apply below_drew1 | refine below_set ?_ GE205.out | refine below_set ?_ GE206.out)) hb);clear BK205;clear BK206;clear HB;have BK205:=n0_;have BK206:=n1_;have HB:=n2_;clear n0_ n1_ n2_;(try clear hb);(try clear hb2);(try clear hk);(try clear hi);have hcz10_0:w9.cell? ⟨gb205,0,none⟩ = some (.slice A0_0 l0_0.length c0_0):=(blk_cell BK205.out 0).trans rfl;have hcz10_1:w9.cell? ⟨gb205,1,none⟩ = some (.slice A0_1 l0_1.length c0_1):=(blk_cell BK205.out 1).trans rfl;have hfz10_0:=blk_frozen BK205.out 0;have hfz10_1:=blk_frozen BK205.out 1) | ((with_reducible refine gate_callee (f:=46) rfl ?_);refine goesL_ (some 17) rfl rfl Try.func46 (by kernel_rfl) rfl #[.agg #[.slice A0_0 l0_0.length c0_0,.slice A0_1 l0_1.length c0_1]] rfl (by (try simp only [List.map_toArray,List.map_cons,List.map_nil]);first | done | rfl | (simp only [List.length_drop,List.length_take];rfl)) ?_;(with_reducible refine (impl_chanceClasses.calls k _ _ l0_0 _ _ l0_1 t208 _ ?side1 ?side2 ?side3 ?side4 A4.out).mono ?_);(case side1=>repeat (first | exact (Kd.C_below HR0_0.out HB.out) | (with_reducible refine Kd.C_alloc ?_ _) | (with_reducible refine Kd.C_drewN ?_ _) | (with_reducible refine Kd.C_drew ?_)));(case side2=>exact HC0_0.out);(case side3=>repeat (first | exact (Kd.C_below HR0_1.out HB.out) | (with_reducible refine Kd.C_alloc ?_ _) | (with_reducible refine Kd.C_drewN ?_ _) | (with_reducible refine Kd.C_drew ?_)));(case side4=>exact HC0_1.out);rintro e w11 ⟨v209,rfl,ho0,hb⟩;refine ⟨_,rfl,?_⟩;have n0_:=Aside0.mk (Kd.R_lower (Kd.R_newM (M:=fun k_=>(w.heap.size ≤ k_)) ho0 (below_size (by repeat (with_reducible first | exact HB.out | apply below_alloc | apply pw_below_drewN | apply below_drew1 | refine below_set ?_ GE205.out | refine below_set ?_ GE206.out))) (fun k_ h_=>h_)) (below_size (by repeat (with_reducible first | exact HB.out | apply below_alloc | apply pw_below_drewN | apply below_drew1 | refine below_set ?_ GE205.out | refine below_set ?_ GE206.out))));have n1_:=Aside0.mk (blk_below (g:=gb205) (o:=.cells #[.slice A0_0 l0_0.length c0_0,.slice A0_1 l0_1.length c0_1] 28 (0,0)) (by (with_reducible repeat (first | refine blk_drewN ?_ _ | refine blk_drew ?_ | refine blk_alloc ?_ _));exact BK205.out) hb);have n2_:=Aside0.mk (blk_below (g:=gb206) (o:=.cells #[.slice none 0 0,.slice none 0 0] 28 (0,0)) (by (with_reducible repeat (first | refine blk_drewN ?_ _ | refine blk_drew ?_ | refine blk_alloc ?_ _));exact BK206.out) hb);have n3_:=Aside0.mk (below_step (by repeat (with_reducible first | exact HB.out | apply below_alloc | apply pw_below_drewN | apply below_drew1 | refine below_set ?_ GE205.out | refine below_set ?_ GE206.out)) hb);clear BK205;clear BK206;clear HB;have HO210:=n0_;have BK205:=n1_;have BK206:=n2_;have HB:=n3_;clear n0_ n1_ n2_ n3_;(try clear hb);(try clear hb2);(try clear hk);(try clear hi);(try clear ho0)) | ((with_reducible refine gate_dst (N:=5) rfl ?_);refine box_event ?hg (N:=5) ?hd (cs:=#[.slice none 0 0,.slice none 0 0]) (t:=28) ?hr ?_;(case hd=>rfl);(case hg=>rfl);(case hr=>first | (go_simp;done) | (go_simp;rfl));intro gb211 hg w12 hbox hb;have n0_:=Aside0.mk (Kd.R_below (by (with_reducible repeat (first | apply Kd.R_alloc | apply Kd.R_drewN | apply Kd.R_drew));exact HO210.out) hb);have n1_:=Aside0.mk (blk_below (g:=gb205) (o:=.cells #[.slice A0_0 l0_0.length c0_0,.slice A0_1 l0_1.length c0_1] 28 (0,0)) (by (with_reducible repeat (first | refine blk_drewN ?_ _ | refine blk_drew ?_ | refine blk_alloc ?_ _));exact BK205.out) hb);have n2_:=Aside0.mk (blk_below (g:=gb206) (o:=.cells #[.slice none 0 0,.slice none 0 0] 28 (0,0)) (by (with_reducible repeat (first | refine blk_drewN ?_ _ | refine blk_drew ?_ | refine blk_alloc ?_ _));exact BK206.out) hb);have n3_:=Aside0.mk (below_step (by repeat (with_reducible first | exact HB.out | apply below_alloc | apply pw_below_drewN | apply below_drew1 | refine below_set ?_ GE205.out | refine below_set ?_ GE206.out)) hb);have n4_:=Aside0.mk (hbox);have n5_:=Aside0.mk ((by rw [hg];exact (below_size (by repeat (with_reducible first | exact HB.out | apply below_alloc | apply pw_below_drewN | apply below_drew1 | refine below_set ?_ GE205.out | refine below_set ?_ GE206.out))):w.heap.size ≤ gb211));have n6_:=Aside0.mk ((by rw [hg];exact (below_size (by repeat (with_reducible first | exact HB.out | apply below_alloc | apply pw_below_drewN | apply below_drew1 | refine below_set ?_ GE205.out | refine below_set ?_ GE206.out))):w.heap.size ≤ gb211));have n7_:=Aside0.mk ((by rw [hg];exact Nat.ne_of_lt (blk_lt (g:=gb205) (o:=.cells #[.slice A0_0 l0_0.length c0_0,.slice A0_1 l0_1.length c0_1] 28 (0,0)) (by (with_reducible repeat (first | refine blk_drewN ?_ _ | refine blk_drew ?_ | refine blk_alloc ?_ _));exact BK205.out)):gb205 ≠ gb211));have n8_:=Aside0.mk ((by rw [hg];exact Nat.ne_of_gt (blk_lt (g:=gb205) (o:=.cells #[.slice A0_0 l0_0.length c0_0,.slice A0_1 l0_1.length c0_1] 28 (0,0)) (by (with_reducible repeat (first | refine blk_drewN ?_ _ | refine blk_drew ?_ | refine blk_alloc ?_ _));exact BK205.out)):gb211 ≠ gb205));have n9_:=Aside0.mk ((by rw [hg];exact Nat.ne_of_lt (blk_lt (g:=gb206) (o:=.cells #[.slice none 0 0,.slice none 0 0] 28 (0,0)) (by (with_reducible repeat (first | refine blk_drewN ?_ _ | refine blk_drew ?_ | refine blk_alloc ?_ _));exact BK206.out)):gb206 ≠ gb211));have n10_:=Aside0.mk ((by rw [hg];exact Nat.ne_of_gt (blk_lt (g:=gb206) (o:=.cells #[.slice none 0 0,.slice none 0 0] 28 (0,0)) (by (with_reducible repeat (first | refine blk_drewN ?_ _ | refine blk_drew ?_ | refine blk_alloc ?_ _));exact BK206.out)):gb211 ≠ gb206));clear HO210;clear BK205;clear BK206;clear HB;have HO210:=n0_;have BK205:=n1_;have BK206:=n2_;have HB:=n3_;have BK211:=n4_;have GW211:=n5_;have GE211:=n6_;have NB205_211:=n7_;have NB211_205:=n8_;have NB206_211:=n9_;have NB211_206:=n10_;clear n0_ n1_ n2_ n3_ n4_ n5_ n6_ n7_ n8_ n9_ n10_;clear hb hbox hg;have hnb13:=NB211_205.out;have hnc13:=NB205_211.out;have hnb14:=NB211_206.out;have hnc14:=NB206_211.out;have hcz15_0:w12.cell? ⟨gb211,0,none⟩ = some (.slice none 0 0):=(blk_cell BK211.out 0).trans rfl;have hcz15_1:w12.cell? ⟨gb211,1,none⟩ = some (.slice none 0 0):=(blk_cell BK211.out 1).trans rfl;have hfz15_0:=blk_frozen BK211.out 0;have hfz15_1:=blk_frozen BK211.out 1;obtain ⟨Ao16,co16,eo16⟩:=Kd.R_slice HO210.out;subst eo16))
  go_loopg [21] k (fun kq v21 w'=>∃ (x21_1:Int) (x212000_1:List Int) (x212001_1:List (List Int)) (u212000:Value) (u212001:Value),v21 = .int .i64 x21_1∧Aside0 (impl_ChancesFold.l0 kq t208 t208 (t208.length:Int) x21_1 l0_0 l0_1 x212000_1 x212001_1 = some (r1,r2,r3))∧Aside0 (kq ≤ k)∧Aside0 (Kd.R (Kd.int .i64) 3 w' w.heap.size (fun k_=>(w.heap.size ≤ k_)∧some k_ ≠ (u212000:Value).ownBlock) (.slice Ao16 t208.length co16) t208)∧Aside0 (Kd.R (Kd.int .i64) 3 w' w.heap.size (fun k_=>(w.heap.size ≤ k_)∧some k_ ≠ (u212000:Value).ownBlock) (.slice Ao16 t208.length co16) t208)∧Aside0 (Kd.R (Kd.int .i64) 3 w' w.heap.size (fun k_=>(w.heap.size ≤ k_)∧some k_ ≠ ((.slice Ao16 t208.length co16):Value).ownBlock∧some k_ ≠ ((.slice Ao16 t208.length co16):Value).ownBlock) u212000 x212000_1)∧Aside0 (Kd.N (Kd.slice 3 (Kd.int .i64)) 22 w' w.heap.size (fun k_=>(w.heap.size ≤ k_)∧some k_ ≠ ((.slice Ao16 t208.length co16):Value).ownBlock∧some k_ ≠ ((.slice Ao16 t208.length co16):Value).ownBlock∧some k_ ≠ (u212000:Value).ownBlock∧k_ ≠ gb205∧k_ ≠ gb206∧k_ ≠ gb211) u212001 x212001_1)∧Aside0 (w'.heap[gb205]? = some (.cells #[(.slice A0_0 l0_0.length c0_0),(.slice A0_1 l0_1.length c0_1)] 28 (0,0)))∧Aside0 (w'.heap[gb206]? = some (.cells #[(.slice none 0 0),(.slice none 0 0)] 28 (0,0)))∧Aside0 (w'.heap[gb211]? = some (.cells #[u212000,u212001] 28 (0,0)))∧Aside0 (Below w.heap.size w w'))
  case atStart=>exact ⟨(0),(([]:List Int)),(([]:List (List Int))),(.slice none 0 0),(.slice none 0 0),(by first | rfl | (simp;done) | (simp [*];done)),H',⟨Nat.le_refl _⟩,⟨by (with_reducible repeat (first | apply Kd.R_alloc | apply Kd.R_drewN | apply Kd.R_drew));exact Kd.R_mono (Kd.R_far (p:=⟨gb211,1,none⟩) (Kd.R_far (p:=⟨gb211,0,none⟩) (Kd.R_types HO210.out BK211.out (by decide)) (fun _ hk=>hk.2) (.slice none 0 0)) (fun _ hk=>hk.2) (.slice none 0 0)) (fun _ hk=>⟨hk.1.1,(by simp [Value.ownBlock])⟩)⟩,⟨by (with_reducible repeat (first | apply Kd.R_alloc | apply Kd.R_drewN | apply Kd.R_drew));exact Kd.R_mono (Kd.R_far (p:=⟨gb211,1,none⟩) (Kd.R_far (p:=⟨gb211,0,none⟩) (Kd.R_types HO210.out BK211.out (by decide)) (fun _ hk=>hk.2) (.slice none 0 0)) (fun _ hk=>hk.2) (.slice none 0 0)) (fun _ hk=>⟨hk.1.1,(by simp [Value.ownBlock])⟩)⟩,⟨by first | exact Kd.R_nil _ _ _ _ _ | exact Kd.N_nil _ _ _ _ _ | exact Kd.V_nil _ _ _ _ _ | exact Kd.Q_nil _ _ _ _ _ | exact Kd.S_nil _ _ _ _ _⟩,⟨by first | exact Kd.S_nil _ _ _ _ _ | exact Kd.N_nil _ _ _ _ _ | exact Kd.V_nil _ _ _ _ _ | exact Kd.Q_nil _ _ _ _ _ | exact Kd.R_nil _ _ _ _ _⟩,⟨by (with_reducible repeat (first | refine blk_drewN ?_ _ | refine blk_drew ?_ | refine blk_alloc ?_ _));refine blk_far ?_ NB205_211.out _;(with_reducible repeat (first | refine blk_drewN ?_ _ | refine blk_drew ?_ | refine blk_alloc ?_ _));refine blk_far ?_ NB205_211.out _;(with_reducible repeat (first | refine blk_drewN ?_ _ | refine blk_drew ?_ | refine blk_alloc ?_ _));exact BK205.out⟩,⟨by (with_reducible repeat (first | refine blk_drewN ?_ _ | refine blk_drew ?_ | refine blk_alloc ?_ _));refine blk_far ?_ NB206_211.out _;(with_reducible repeat (first | refine blk_drewN ?_ _ | refine blk_drew ?_ | refine blk_alloc ?_ _));refine blk_far ?_ NB206_211.out _;(with_reducible repeat (first | refine blk_drewN ?_ _ | refine blk_drew ?_ | refine blk_alloc ?_ _));exact BK206.out⟩,⟨by (with_reducible repeat (first | refine blk_drewN ?_ _ | refine blk_drew ?_ | refine blk_alloc ?_ _));refine blk_put (cs:=#[.slice none 0 0,.slice none 0 0]) ?_ 1 _ rfl;(with_reducible repeat (first | refine blk_drewN ?_ _ | refine blk_drew ?_ | refine blk_alloc ?_ _));refine blk_put (cs:=#[.slice none 0 0,.slice none 0 0]) ?_ 0 _ rfl;(with_reducible repeat (first | refine blk_drewN ?_ _ | refine blk_drew ?_ | refine blk_alloc ?_ _));exact BK211.out⟩,⟨by repeat (with_reducible first | exact HB.out | apply below_alloc | apply pw_below_drewN | apply below_drew1 | refine below_set ?_ GE205.out | refine below_set ?_ GE206.out | refine below_set ?_ GE211.out)⟩⟩
  case round =>
   clear H'
   try clear c1
   try clear p2
   try clear c3
   try clear c4
   try clear c7
   try clear c13
   try clear c14
   try clear c16
   try clear hcz10_0
   try clear hcz10_1
   try clear hcz15_0
   try clear hcz15_1
   try clear hcz8_0
   try clear hcz8_1
   try clear hfz10_0
   try clear hfz10_1
   try clear hfz15_0
   try clear hfz15_1
   try clear hfz8_0
   try clear hfz8_1
   obtain ⟨x21_1,x212000_1,x212001_1,u212000,u212001,rfl,HA,HK1,HO_4,HO_19,HO_212000,HO_212001,BK205,BK206,BK211,HB⟩:=hrel
   cases gk with
   | zero=>exact absurd HA.out (by simp [impl_ChancesFold.l0])
   | succ k1 =>
    have H:=HA.out
    clear HA
    simp only [impl_ChancesFold.l0] at H
    by_cases c17:x21_1 < (t208.length:Int)
    ·rw [if_pos c17] at H
     have c17b0:decide (x21_1 < (t208.length:Int)) = true:=decide_eq_true c17
     clear c17
     by_cases c18:0 ≤ x21_1
     ·rw [if_pos c18] at H
      have c18b0:decide (0 ≤ x21_1) = true:=decide_eq_true c18
      clear c18
      by_cases c19:x21_1 < (t208.length:Int)
      ·rw [if_pos c19] at H
       have c19b0:decide (x21_1 < (t208.length:Int)) = true:=decide_eq_true c19
       clear c19
       by_cases c20:(rd t208 x21_1) = x21_1
       ·rw [if_pos c20] at H
        have c20b0:((rd t208 x21_1) == x21_1) = true:=beq_iff_eq.mpr c20
        have c20b1:((rd t208 x21_1) != x21_1) = false:=bne_eq_false_iff_eq.mpr c20
        clear c20
        obtain ⟨y213,hy213⟩:∃ y_:List Int,y_ = (([]:List Int)):=⟨_,rfl⟩
        replace H:((impl_sums.f k1 l0_0 l0_1 t208 x21_1).bind fun t216=>(impl_ChancesFold.l1 k1 t208 x21_1 y213 t216 t208 (t208.length:Int) x21_1 t208 (t208.length:Int) 0 l0_0 l0_1 x212000_1 x212001_1)) = some (r1,r2,r3):=by rw [hy213];exact H
        have Ny213:=Aside0.mk hy213
        clear hy213
        replace H:=Option.bind_eq_some_iff.mp H
        obtain ⟨t216,A210,H⟩:=H
        replace H:(impl_ChancesFold.l1 k1 t208 x21_1 y213 t216 t208 (t208.length:Int) x21_1 t208 (t208.length:Int) 0 l0_0 l0_1 x212000_1 x212001_1) = some (r1,r2,r3):=H
        have A21:=Aside0.mk A210
        clear A210
        have H':=Aside0.mk H
        clear H
        have p212:0 ≤ (x21_1:Int):=of_decide_eq_true (by assumption)
        have q212:x21_1 < (t208.length:Int):=of_decide_eq_true (by assumption)
        obtain ⟨ad212,e212,hx212_0⟩:=Kd.at_int (Kd.R_reads' HO_19.out).2.2 x21_1 p212 q212
        cases e212
        replace p212:=eq_true p212
        replace q212:=eq_true q212
        go_wp2_with (first | ((with_reducible refine gate_dst (N:=29) rfl ?_);refine Kd.R_lit (Kd.int .i64) _ 3 ?hg (N:=29) ?hd (xs:=([]:List Int)) (inner:=[]) (ok:=fun _=>True) (okp:=fun _=>True) ?hr ?hp (fun _ hk=>hk) trivial (Below.refl _ _) (Nat.le_refl _) (by simp) ?_;(case hd=>rfl);(case hg=>rfl);(case hr=>first | (go_simp;done) | (go_simp;rfl));(case hp=>exact (Reps.none _ _));intro v214 w22 ho23 hb hg_ hnew_;clear hg_ hnew_;(first | rw [← Ny213.out] at ho23 | (simp only [Int.reduceToNat] at ho23;rw [← Ny213.out] at ho23));have n0_:=Aside0.mk (Kd.R_elder' (by (with_reducible repeat (first | apply Kd.R_alloc | apply Kd.R_drewN | apply Kd.R_drew));exact HO_4.out) (Kd.R_base ho23) hb);have n1_:=Aside0.mk (Kd.R_elder' (by (with_reducible repeat (first | apply Kd.R_alloc | apply Kd.R_drewN | apply Kd.R_drew));exact HO_19.out) (Kd.R_base ho23) hb);have n2_:=Aside0.mk (Kd.R_elder' (by (with_reducible repeat (first | apply Kd.R_alloc | apply Kd.R_drewN | apply Kd.R_drew));exact HO_212000.out) (Kd.R_base ho23) hb);have n3_:=Aside0.mk (Kd.N_elder' (by (with_reducible repeat (first | apply Kd.N_alloc | apply Kd.N_drewN | apply Kd.N_drew));exact HO_212001.out) (Kd.R_base ho23) hb);have n4_:=Aside0.mk (Kd.R_lower (Kd.R_new' (Kd.R_new' (Kd.R_new' (Kd.R_newM (M:=fun k_=>(w.heap.size ≤ k_)) ho23 (below_size (by repeat (with_reducible first | exact HB.out | apply below_alloc | apply pw_below_drewN | apply below_drew1 | refine below_set ?_ GE205.out | refine below_set ?_ GE206.out | refine below_set ?_ GE211.out))) (fun k_ h_=>h_)) (Kd.R_lt (by (with_reducible repeat (first | apply Kd.R_alloc | apply Kd.R_drewN | apply Kd.R_drew));exact HO_4.out))) (Kd.R_lt (by (with_reducible repeat (first | apply Kd.R_alloc | apply Kd.R_drewN | apply Kd.R_drew));exact HO_19.out))) (Kd.R_lt (by (with_reducible repeat (first | apply Kd.R_alloc | apply Kd.R_drewN | apply Kd.R_drew));exact HO_212000.out))) (below_size (by repeat (with_reducible first | exact HB.out | apply below_alloc | apply pw_below_drewN | apply below_drew1 | refine below_set ?_ GE205.out | refine below_set ?_ GE206.out | refine below_set ?_ GE211.out))));have n5_:=Aside0.mk (blk_below (g:=gb205) (o:=.cells #[.slice A0_0 l0_0.length c0_0,.slice A0_1 l0_1.length c0_1] 28 (0,0)) (by (with_reducible repeat (first | refine blk_drewN ?_ _ | refine blk_drew ?_ | refine blk_alloc ?_ _));exact BK205.out) hb);have n6_:=Aside0.mk (blk_below (g:=gb206) (o:=.cells #[.slice none 0 0,.slice none 0 0] 28 (0,0)) (by (with_reducible repeat (first | refine blk_drewN ?_ _ | refine blk_drew ?_ | refine blk_alloc ?_ _));exact BK206.out) hb);have n7_:=Aside0.mk (blk_below (g:=gb211) (o:=.cells #[u212000,u212001] 28 (0,0)) (by (with_reducible repeat (first | refine blk_drewN ?_ _ | refine blk_drew ?_ | refine blk_alloc ?_ _));exact BK211.out) hb);have n8_:=Aside0.mk (below_step (by repeat (with_reducible first | exact HB.out | apply below_alloc | apply pw_below_drewN | apply below_drew1 | refine below_set ?_ GE205.out | refine below_set ?_ GE206.out | refine below_set ?_ GE211.out)) hb);clear HO_4;clear HO_19;clear HO_212000;clear HO_212001;clear BK205;clear BK206;clear BK211;clear HB;have HO_4:=n0_;have HO_19:=n1_;have HO_212000:=n2_;have HO_212001:=n3_;have HO215:=n4_;have BK205:=n5_;have BK206:=n6_;have BK211:=n7_;have HB:=n8_;clear n0_ n1_ n2_ n3_ n4_ n5_ n6_ n7_ n8_;clear hb ho23;have hnb24:=NB205_206.out;have hnc24:=NB206_205.out;have hnb25:=NB205_211.out;have hnc25:=NB211_205.out;have hcz26_0:w22.cell? ⟨gb205,0,none⟩ = some (.slice A0_0 l0_0.length c0_0):=(blk_cell BK205.out 0).trans rfl;have hcz26_1:w22.cell? ⟨gb205,1,none⟩ = some (.slice A0_1 l0_1.length c0_1):=(blk_cell BK205.out 1).trans rfl;have hfz26_0:=blk_frozen BK205.out 0;have hfz26_1:=blk_frozen BK205.out 1) | ((with_reducible refine gate_callee (f:=47) rfl ?_);refine goesL_ (some 33) rfl rfl Try.func47 (by kernel_rfl) rfl #[.agg #[.slice A0_0 l0_0.length c0_0,.slice A0_1 l0_1.length c0_1],.slice (some ad212) t208.length co16,.int .i64 x21_1] rfl (by (try simp only [List.map_toArray,List.map_cons,List.map_nil]);first | done | rfl | (simp only [List.length_drop,List.length_take];rfl)) ?_;(with_reducible refine (impl_sums.calls k1 _ _ l0_0 _ _ l0_1 _ _ t208 x21_1 t216 _ ?side1 ?side2 ?side3 ?side4 ?side5 ?side6 A21.out).mono ?_);(case side1=>repeat (first | exact (Kd.C_below HR0_0.out HB.out) | (with_reducible refine Kd.C_alloc ?_ _) | (with_reducible refine Kd.C_drewN ?_ _) | (with_reducible refine Kd.C_drew ?_)));(case side2=>exact HC0_0.out);(case side3=>repeat (first | exact (Kd.C_below HR0_1.out HB.out) | (with_reducible refine Kd.C_alloc ?_ _) | (with_reducible refine Kd.C_drewN ?_ _) | (with_reducible refine Kd.C_drew ?_)));(case side4=>exact HC0_1.out);(case side5=>repeat (first | exact (Kd.R_reads' HO_4.out).2.2 | (with_reducible refine Kd.C_alloc ?_ _) | (with_reducible refine Kd.C_drewN ?_ _) | (with_reducible refine Kd.C_drew ?_)));(case side6=>exact (Kd.R_reads' HO_4.out).2.1);rintro e w27 ⟨v217,rfl,ho0,hb⟩;refine ⟨_,rfl,?_⟩;have n0_:=Aside0.mk (Kd.R_elder' (by (with_reducible repeat (first | apply Kd.R_alloc | apply Kd.R_drewN | apply Kd.R_drew));exact HO_4.out) (Kd.R_base ho0) hb);have n1_:=Aside0.mk (Kd.R_elder' (by (with_reducible repeat (first | apply Kd.R_alloc | apply Kd.R_drewN | apply Kd.R_drew));exact HO_19.out) (Kd.R_base ho0) hb);have n2_:=Aside0.mk (Kd.R_elder' (by (with_reducible repeat (first | apply Kd.R_alloc | apply Kd.R_drewN | apply Kd.R_drew));exact HO_212000.out) (Kd.R_base ho0) hb);have n3_:=Aside0.mk (Kd.N_elder' (by (with_reducible repeat (first | apply Kd.N_alloc | apply Kd.N_drewN | apply Kd.N_drew));exact HO_212001.out) (Kd.R_base ho0) hb);have n4_:=Aside0.mk (Kd.R_elder' (by (with_reducible repeat (first | apply Kd.R_alloc | apply Kd.R_drewN | apply Kd.R_drew));exact HO215.out) (Kd.R_base ho0) hb);have n5_:=Aside0.mk (Kd.R_lower (Kd.R_new' (Kd.R_new' (Kd.R_new' (Kd.R_new' (Kd.R_newM (M:=fun k_=>(w.heap.size ≤ k_)) ho0 (below_size (by repeat (with_reducible first | exact HB.out | apply below_alloc | apply pw_below_drewN | apply below_drew1 | refine below_set ?_ GE205.out | refine below_set ?_ GE206.out | refine below_set ?_ GE211.out))) (fun k_ h_=>h_)) (Kd.R_lt (by (with_reducible repeat (first | apply Kd.R_alloc | apply Kd.R_drewN | apply Kd.R_drew));exact HO_4.out))) (Kd.R_lt (by (with_reducible repeat (first | apply Kd.R_alloc | apply Kd.R_drewN | apply Kd.R_drew));exact HO_19.out))) (Kd.R_lt (by (with_reducible repeat (first | apply Kd.R_alloc | apply Kd.R_drewN | apply Kd.R_drew));exact HO_212000.out))) (Kd.R_lt (by (with_reducible repeat (first | apply Kd.R_alloc | apply Kd.R_drewN | apply Kd.R_drew));exact HO215.out))) (below_size (by repeat (with_reducible first | exact HB.out | apply below_alloc | apply pw_below_drewN | apply below_drew1 | refine below_set ?_ GE205.out | refine below_set ?_ GE206.out | refine below_set ?_ GE211.out))));have n6_:=Aside0.mk (blk_below (g:=gb205) (o:=.cells #[.slice A0_0 l0_0.length c0_0,.slice A0_1 l0_1.length c0_1] 28 (0,0)) (by (with_reducible repeat (first | refine blk_drewN ?_ _ | refine blk_drew ?_ | refine blk_alloc ?_ _));exact BK205.out) hb);have n7_:=Aside0.mk (blk_below (g:=gb206) (o:=.cells #[.slice none 0 0,.slice none 0 0] 28 (0,0)) (by (with_reducible repeat (first | refine blk_drewN ?_ _ | refine blk_drew ?_ | refine blk_alloc ?_ _));exact BK206.out) hb);have n8_:=Aside0.mk (blk_below (g:=gb211) (o:=.cells #[u212000,u212001] 28 (0,0)) (by (with_reducible repeat (first | refine blk_drewN ?_ _ | refine blk_drew ?_ | refine blk_alloc ?_ _));exact BK211.out) hb);have n9_:=Aside0.mk (below_step (by repeat (with_reducible first | exact HB.out | apply below_alloc | apply pw_below_drewN | apply below_drew1 | refine below_set ?_ GE205.out | refine below_set ?_ GE206.out | refine below_set ?_ GE211.out)) hb);clear HO_4;clear HO_19;clear HO_212000;clear HO_212001;clear HO215;clear BK205;clear BK206;clear BK211;clear HB;have HO_4:=n0_;have HO_19:=n1_;have HO_212000:=n2_;have HO_212001:=n3_;have HO215:=n4_;have HO218:=n5_;have BK205:=n6_;have BK206:=n7_;have BK211:=n8_;have HB:=n9_;clear n0_ n1_ n2_ n3_ n4_ n5_ n6_ n7_ n8_ n9_;(try clear hb);(try clear hb2);(try clear hk);(try clear hi);(try clear ho0)))
        go_loopg [8,36] k1 (fun kq v8 v36 w'=>∃ (x8_2:List Int) (x36_2:Int),v36 = .int .i64 x36_2∧Aside0 (impl_ChancesFold.l1 kq t208 x21_1 x8_2 t216 t208 (t208.length:Int) x21_1 t208 (t208.length:Int) x36_2 l0_0 l0_1 x212000_1 x212001_1 = some (r1,r2,r3))∧Aside0 (kq ≤ k1)∧Aside0 (Kd.R (Kd.int .i64) 3 w' w.heap.size (fun k_=>(w.heap.size ≤ k_)∧some k_ ≠ (v8:Value).ownBlock∧some k_ ≠ (v217:Value).ownBlock∧some k_ ≠ (u212000:Value).ownBlock) (.slice (some ad212) t208.length co16) t208)∧Aside0 (Kd.R (Kd.int .i64) 3 w' w.heap.size (fun k_=>(w.heap.size ≤ k_)∧some k_ ≠ ((.slice (some ad212) t208.length co16):Value).ownBlock∧some k_ ≠ (v217:Value).ownBlock∧some k_ ≠ ((.slice (some ad212) t208.length co16):Value).ownBlock∧some k_ ≠ ((.slice (some ad212) t208.length co16):Value).ownBlock∧some k_ ≠ (u212000:Value).ownBlock) v8 x8_2)∧Aside0 (Kd.R (Kd.int .i64) 3 w' w.heap.size (fun k_=>(w.heap.size ≤ k_)∧some k_ ≠ ((.slice (some ad212) t208.length co16):Value).ownBlock∧some k_ ≠ (v8:Value).ownBlock∧some k_ ≠ ((.slice (some ad212) t208.length co16):Value).ownBlock∧some k_ ≠ ((.slice (some ad212) t208.length co16):Value).ownBlock∧some k_ ≠ (u212000:Value).ownBlock) v217 t216)∧Aside0 (Kd.R (Kd.int .i64) 3 w' w.heap.size (fun k_=>(w.heap.size ≤ k_)∧some k_ ≠ (v8:Value).ownBlock∧some k_ ≠ (v217:Value).ownBlock∧some k_ ≠ (u212000:Value).ownBlock) (.slice (some ad212) t208.length co16) t208)∧Aside0 (Kd.R (Kd.int .i64) 3 w' w.heap.size (fun k_=>(w.heap.size ≤ k_)∧some k_ ≠ (v8:Value).ownBlock∧some k_ ≠ (v217:Value).ownBlock∧some k_ ≠ (u212000:Value).ownBlock) (.slice (some ad212) t208.length co16) t208)∧Aside0 (Kd.R (Kd.int .i64) 3 w' w.heap.size (fun k_=>(w.heap.size ≤ k_)∧some k_ ≠ ((.slice (some ad212) t208.length co16):Value).ownBlock∧some k_ ≠ (v8:Value).ownBlock∧some k_ ≠ (v217:Value).ownBlock∧some k_ ≠ ((.slice (some ad212) t208.length co16):Value).ownBlock∧some k_ ≠ ((.slice (some ad212) t208.length co16):Value).ownBlock) u212000 x212000_1)∧Aside0 (Kd.N (Kd.slice 3 (Kd.int .i64)) 22 w' w.heap.size (fun k_=>(w.heap.size ≤ k_)∧some k_ ≠ ((.slice (some ad212) t208.length co16):Value).ownBlock∧some k_ ≠ (v8:Value).ownBlock∧some k_ ≠ (v217:Value).ownBlock∧some k_ ≠ ((.slice (some ad212) t208.length co16):Value).ownBlock∧some k_ ≠ ((.slice (some ad212) t208.length co16):Value).ownBlock∧some k_ ≠ (u212000:Value).ownBlock∧k_ ≠ gb205∧k_ ≠ gb206∧k_ ≠ gb211) u212001 x212001_1)∧Aside0 (w'.heap[gb205]? = some (.cells #[(.slice A0_0 l0_0.length c0_0),(.slice A0_1 l0_1.length c0_1)] 28 (0,0)))∧Aside0 (w'.heap[gb206]? = some (.cells #[(.slice none 0 0),(.slice none 0 0)] 28 (0,0)))∧Aside0 (w'.heap[gb211]? = some (.cells #[u212000,u212001] 28 (0,0)))∧Aside0 (Below w.heap.size w w'))
        case atStart=>exact ⟨(y213),(0),(by first | rfl | (simp;done) | (simp [*];done)),H',⟨Nat.le_refl _⟩,⟨by exact Kd.R_mono HO_4.out (fun _ hk=>⟨hk.1.1.1,⟨hk.1.2,⟨hk.2,hk.1.1.2⟩⟩⟩)⟩,⟨by exact Kd.R_mono HO215.out (fun _ hk=>⟨hk.1.1.1.1.1,⟨hk.1.1.1.2,⟨hk.2,⟨hk.1.1.2,⟨hk.1.1.1.2,hk.1.2⟩⟩⟩⟩⟩)⟩,⟨by exact Kd.R_mono HO218.out (fun _ hk=>⟨hk.1.1.1.1.1,⟨hk.1.1.1.2,⟨hk.2,⟨hk.1.1.2,⟨hk.1.1.1.2,hk.1.2⟩⟩⟩⟩⟩)⟩,⟨by exact Kd.R_mono HO_19.out (fun _ hk=>⟨hk.1.1.1,⟨hk.1.2,⟨hk.2,hk.1.1.2⟩⟩⟩)⟩,⟨by exact Kd.R_mono HO_4.out (fun _ hk=>⟨hk.1.1.1,⟨hk.1.2,⟨hk.2,hk.1.1.2⟩⟩⟩)⟩,⟨by exact Kd.R_mono HO_212000.out (fun _ hk=>⟨hk.1.1.1,⟨hk.1.1.2.1,⟨hk.1.2,⟨hk.2,⟨hk.1.1.2.2,hk.1.1.2.1⟩⟩⟩⟩⟩)⟩,⟨by exact Kd.N_mono HO_212001.out (fun _ hk=>⟨hk.1.1.1,⟨hk.1.1.2.1,⟨hk.1.2,⟨hk.2,⟨hk.1.1.2.2.1,⟨hk.1.1.2.1,⟨hk.1.1.2.2.2.1,⟨hk.1.1.2.2.2.2.1,⟨hk.1.1.2.2.2.2.2.1,hk.1.1.2.2.2.2.2.2⟩⟩⟩⟩⟩⟩⟩⟩⟩)⟩,⟨by exact BK205.out⟩,⟨by exact BK206.out⟩,⟨by exact BK211.out⟩,⟨by exact HB.out⟩⟩
        case round =>
         clear H'
         try clear c1
         try clear c2
         try clear p2
         try clear q2
         try clear hx2
         try clear c3
         try clear c4
         try clear c7
         try clear c13
         try clear c14
         try clear c16
         try clear c17
         try clear c17b0
         try clear c18
         try clear c18b0
         try clear c19
         try clear c19b0
         try clear c20
         try clear c20b0
         try clear c20b1
         try clear p21
         try clear q21
         try clear hx21
         try clear c24
         try clear c25
         try clear hcz10_0
         try clear hcz10_1
         try clear hcz15_0
         try clear hcz15_1
         try clear hcz26_0
         try clear hcz26_1
         try clear hcz8_0
         try clear hcz8_1
         try clear hfz10_0
         try clear hfz10_1
         try clear hfz15_0
         try clear hfz15_1
         try clear hfz26_0
         try clear hfz26_1
         try clear hfz8_0
         try clear hfz8_1
         try clear hx212_0
         try clear p2
         try clear p212
         try clear q212
         obtain ⟨x8_2,x36_2,rfl,HA,HK2,HO_4,HO_8,HO_9,HO_19,HO_34,HO_212000,HO_212001,BK205,BK206,BK211,HB⟩:=hrel
         cases gk with
         | zero=>exact absurd HA.out (by simp [impl_ChancesFold.l1])
         | succ k2 =>
          have H:=HA.out
          clear HA
          simp only [impl_ChancesFold.l1] at H
          by_cases c28:x36_2 < (t208.length:Int)
          ·rw [if_pos c28] at H
           have c28b0:decide (x36_2 < (t208.length:Int)) = true:=decide_eq_true c28
           clear c28
           by_cases c29:0 ≤ x36_2
           ·rw [if_pos c29] at H
            have c29b0:decide (0 ≤ x36_2) = true:=decide_eq_true c29
            clear c29
            by_cases c30:x36_2 < (t208.length:Int)
            ·rw [if_pos c30] at H
             have c30b0:decide (x36_2 < (t208.length:Int)) = true:=decide_eq_true c30
             clear c30
             by_cases c31:(rd t208 x36_2) = x36_2
             ·rw [if_pos c31] at H
              have c31b0:((rd t208 x36_2) == x36_2) = true:=beq_iff_eq.mpr c31
              have c31b1:((rd t208 x36_2) != x36_2) = false:=bne_eq_false_iff_eq.mpr c31
              clear c31
              by_cases c32:x36_2 < (t216.length:Int)
              ·rw [if_pos c32] at H
               have c32b0:decide (x36_2 < (t216.length:Int)) = true:=decide_eq_true c32
               clear c32
               by_cases c33:x8_2.length < 17592186044416
               ·rw [if_pos c33] at H
                have LMc33:=Aside0.mk c33
                clear c33
                obtain ⟨y221,hy221⟩:∃ y_:List Int,y_ = (x8_2 ++ [rd t216 x36_2]):=⟨_,rfl⟩
                replace H:(impl_ChancesFold.l1 k2 t208 x21_1 y221 t216 t208 (t208.length:Int) x21_1 t208 (t208.length:Int) (wrap64 (x36_2 + 1)) l0_0 l0_1 x212000_1 x212001_1) = some (r1,r2,r3):=by rw [hy221];exact H
                have Ny221:=Aside0.mk hy221
                clear hy221
                have H':=Aside0.mk H
                clear H
                have p219:0 ≤ (x36_2:Int):=of_decide_eq_true (by assumption)
                have q219:x36_2 < (t208.length:Int):=of_decide_eq_true (by assumption)
                obtain ⟨ad219,e219,hx219_0⟩:=Kd.at_int (Kd.R_reads' HO_34.out).2.2 x36_2 p219 q219
                obtain rfl:ad212 = ad219:=(by injection e219)
                replace p219:=eq_true p219
                replace q219:=eq_true q219
                obtain ⟨Ao34,co34,eo34⟩:=Kd.R_slice HO_9.out
                subst eo34
                have p220:0 ≤ (x36_2:Int):=of_decide_eq_true (by assumption)
                have q220:x36_2 < (t216.length:Int):=of_decide_eq_true (by assumption)
                obtain ⟨ad220,e220,hx220_0⟩:=Kd.at_int (Kd.R_reads' HO_9.out).2.2 x36_2 p220 q220
                cases e220
                replace p220:=eq_true p220
                replace q220:=eq_true q220
                go_wp2_with (first | ((with_reducible refine gate_builtin (b:=.append) (xs:=#[.tmp 44,.tmp 49]) rfl ?_);at_builtin;refine Kd.R_append (Kd.int .i64) (w0:=w) w.heap.size rfl (.tmp 44) (.tmp 49) 22 3 (.int .i64 0) 8 rfl Try.underlying22 info3 rfl (by decide) (by omega) u8 x8_2 (rd t216 x36_2) [.int .i64 (rd t216 x36_2)] (fun k_=>(w.heap.size ≤ k_)∧some k_ ≠ (.slice (some ad212) t208.length co16:Value).ownBlock∧some k_ ≠ (.slice (some ad220) t216.length co34:Value).ownBlock∧some k_ ≠ (.slice (some ad212) t208.length co16:Value).ownBlock∧some k_ ≠ (.slice (some ad212) t208.length co16:Value).ownBlock∧some k_ ≠ (u212000:Value).ownBlock) (fun _=>False) rfl rfl ?aP (fun _ hk=>hk.elim) ?aF ?aO ?aB ?aS ?aL ?_;(case aP=>exact rfl);(case aB=>exact (by exact HB.out));(case aF=>exact (fun k_ hk=>⟨(Nat.le_trans (below_size (by exact HB.out)) hk),Kd.fresh' (Kd.R_lt (by exact HO_4.out)) k_ hk,Kd.fresh' (Kd.R_lt (by exact HO_9.out)) k_ hk,Kd.fresh' (Kd.R_lt (by exact HO_19.out)) k_ hk,Kd.fresh' (Kd.R_lt (by exact HO_34.out)) k_ hk,Kd.fresh' (Kd.R_lt (by exact HO_212000.out)) k_ hk⟩));(case aO=>exact (by exact HO_8.out));(case aS=>exact (below_size (by exact HB.out)));(case aL=>have:=LMc33.out;omega);intro v222 w35 ho hb hg hat;rw [← Ny221.out] at ho;have n0_:=Aside0.mk (Kd.R_after (ok:=(fun k_=>(w.heap.size ≤ k_)∧some k_ ≠ (.slice (some ad220) t216.length co34:Value).ownBlock∧some k_ ≠ (u212000:Value).ownBlock)) (by exact Kd.R_mono HO_4.out (fun _ hk=>⟨⟨hk.1,⟨hk.2.2.1,hk.2.2.2⟩⟩,hk.2.1⟩)) hg hat);have n1_:=Aside0.mk (Kd.R_after (ok:=(fun k_=>(w.heap.size ≤ k_)∧some k_ ≠ (.slice (some ad212) t208.length co16:Value).ownBlock∧some k_ ≠ (.slice (some ad212) t208.length co16:Value).ownBlock∧some k_ ≠ (.slice (some ad212) t208.length co16:Value).ownBlock∧some k_ ≠ (u212000:Value).ownBlock)) (by exact Kd.R_mono HO_9.out (fun _ hk=>⟨⟨hk.1,⟨hk.2.1,⟨hk.2.2.2.1,⟨hk.2.2.2.2.1,hk.2.2.2.2.2⟩⟩⟩⟩,hk.2.2.1⟩)) hg hat);have n2_:=Aside0.mk (Kd.R_after (ok:=(fun k_=>(w.heap.size ≤ k_)∧some k_ ≠ (.slice (some ad220) t216.length co34:Value).ownBlock∧some k_ ≠ (u212000:Value).ownBlock)) (by exact Kd.R_mono HO_19.out (fun _ hk=>⟨⟨hk.1,⟨hk.2.2.1,hk.2.2.2⟩⟩,hk.2.1⟩)) hg hat);have n3_:=Aside0.mk (Kd.R_after (ok:=(fun k_=>(w.heap.size ≤ k_)∧some k_ ≠ (.slice (some ad220) t216.length co34:Value).ownBlock∧some k_ ≠ (u212000:Value).ownBlock)) (by exact Kd.R_mono HO_34.out (fun _ hk=>⟨⟨hk.1,⟨hk.2.2.1,hk.2.2.2⟩⟩,hk.2.1⟩)) hg hat);have n4_:=Aside0.mk (Kd.R_after (ok:=(fun k_=>(w.heap.size ≤ k_)∧some k_ ≠ (.slice (some ad212) t208.length co16:Value).ownBlock∧some k_ ≠ (.slice (some ad220) t216.length co34:Value).ownBlock∧some k_ ≠ (.slice (some ad212) t208.length co16:Value).ownBlock∧some k_ ≠ (.slice (some ad212) t208.length co16:Value).ownBlock)) (by exact Kd.R_mono HO_212000.out (fun _ hk=>⟨⟨hk.1,⟨hk.2.1,⟨hk.2.2.2.1,⟨hk.2.2.2.2.1,hk.2.2.2.2.2⟩⟩⟩⟩,hk.2.2.1⟩)) hg hat);have n5_:=Aside0.mk (Kd.N_afterv (ok:=(fun k_=>(w.heap.size ≤ k_)∧some k_ ≠ (.slice (some ad212) t208.length co16:Value).ownBlock∧some k_ ≠ (.slice (some ad220) t216.length co34:Value).ownBlock∧some k_ ≠ (.slice (some ad212) t208.length co16:Value).ownBlock∧some k_ ≠ (.slice (some ad212) t208.length co16:Value).ownBlock∧some k_ ≠ (u212000:Value).ownBlock∧k_ ≠ gb205∧k_ ≠ gb206∧k_ ≠ gb211)) (by exact Kd.N_mono HO_212001.out (fun _ hk=>⟨⟨hk.1,⟨hk.2.1,⟨hk.2.2.2.1,⟨hk.2.2.2.2.1,⟨hk.2.2.2.2.2.1,⟨hk.2.2.2.2.2.2.1,⟨hk.2.2.2.2.2.2.2.1,⟨hk.2.2.2.2.2.2.2.2.1,hk.2.2.2.2.2.2.2.2.2⟩⟩⟩⟩⟩⟩⟩⟩,hk.2.2.1⟩)) hg hat);have n6_:=Aside0.mk (blk_grown (g:=gb205) (o:=.cells #[.slice A0_0 l0_0.length c0_0,.slice A0_1 l0_1.length c0_1] 28 (0,0)) (by exact BK205.out) hg (Kd.R_ne HO_8.out BK205.out (by decide)));have n7_:=Aside0.mk (blk_grown (g:=gb206) (o:=.cells #[.slice none 0 0,.slice none 0 0] 28 (0,0)) (by exact BK206.out) hg (Kd.R_ne HO_8.out BK206.out (by decide)));have n8_:=Aside0.mk (blk_grown (g:=gb211) (o:=.cells #[u212000,u212001] 28 (0,0)) (by exact BK211.out) hg (Kd.R_ne HO_8.out BK211.out (by decide)));have n9_:=Aside0.mk (hb);have n10_:=Aside0.mk (ho);clear HO_4;clear HO_9;clear HO_19;clear HO_34;clear HO_212000;clear HO_212001;clear BK205;clear BK206;clear BK211;clear HB;clear HO_8;have HO_4:=n0_;have HO_9:=n1_;have HO_19:=n2_;have HO_34:=n3_;have HO_212000:=n4_;have HO_212001:=n5_;have BK205:=n6_;have BK206:=n7_;have BK211:=n8_;have HB:=n9_;have HO223:=n10_;clear n0_ n1_ n2_ n3_ n4_ n5_ n6_ n7_ n8_ n9_ n10_;clear ho hb hg hat))
                go_roundg k2
                case measure=>have:=HK1.out;have:=HK2.out;omega
                case rel=>exact ⟨(y221),(wrap64 (x36_2 + 1)),(by first | rfl | (simp;done) | (simp [*];done)),H',⟨by have:=HK1.out;have:=HK2.out;omega⟩,⟨by exact Kd.R_mono HO_4.out (fun _ hk=>⟨hk.1.1,⟨hk.2,⟨hk.1.2.1,hk.1.2.2⟩⟩⟩)⟩,⟨by exact HO223.out⟩,⟨by exact Kd.R_mono HO_9.out (fun _ hk=>⟨hk.1.1,⟨hk.1.2.1,⟨hk.2,⟨hk.1.2.2.1,⟨hk.1.2.2.2.1,hk.1.2.2.2.2⟩⟩⟩⟩⟩)⟩,⟨by exact Kd.R_mono HO_19.out (fun _ hk=>⟨hk.1.1,⟨hk.2,⟨hk.1.2.1,hk.1.2.2⟩⟩⟩)⟩,⟨by exact Kd.R_mono HO_34.out (fun _ hk=>⟨hk.1.1,⟨hk.2,⟨hk.1.2.1,hk.1.2.2⟩⟩⟩)⟩,⟨by exact Kd.R_mono HO_212000.out (fun _ hk=>⟨hk.1.1,⟨hk.1.2.1,⟨hk.2,⟨hk.1.2.2.1,⟨hk.1.2.2.2.1,hk.1.2.2.2.2⟩⟩⟩⟩⟩)⟩,⟨by exact Kd.N_mono HO_212001.out (fun _ hk=>⟨hk.1.1,⟨hk.1.2.1,⟨hk.2,⟨hk.1.2.2.1,⟨hk.1.2.2.2.1,⟨hk.1.2.2.2.2.1,⟨hk.1.2.2.2.2.2.1,⟨hk.1.2.2.2.2.2.2.1,⟨hk.1.2.2.2.2.2.2.2.1,hk.1.2.2.2.2.2.2.2.2⟩⟩⟩⟩⟩⟩⟩⟩⟩)⟩,⟨by exact BK205.out⟩,⟨by exact BK206.out⟩,⟨by exact BK211.out⟩,⟨by exact HB.out⟩⟩
               ·rw [if_neg c33] at H
                exact absurd H (by simp)
              ·rw [if_neg c32] at H
               exact absurd H (by simp)
             ·rw [if_neg c31] at H
              have c31b0:((rd t208 x36_2) == x36_2) = false:=beq_eq_false_iff_ne.mpr c31
              have c31b1:((rd t208 x36_2) != x36_2) = true:=bne_iff_ne.mpr c31
              have H':=Aside0.mk H
              clear H
              have p219:0 ≤ (x36_2:Int):=of_decide_eq_true (by assumption)
              have q219:x36_2 < (t208.length:Int):=of_decide_eq_true (by assumption)
              obtain ⟨ad219,e219,hx219_0⟩:=Kd.at_int (Kd.R_reads' HO_34.out).2.2 x36_2 p219 q219
              obtain rfl:ad212 = ad219:=(by injection e219)
              replace p219:=eq_true p219
              replace q219:=eq_true q219
              go_wp2
              go_roundg k2
              case measure=>have:=HK1.out;have:=HK2.out;omega
              case rel=>exact ⟨(x8_2),(wrap64 (x36_2 + 1)),(by first | rfl | (simp;done) | (simp [*];done)),H',⟨by have:=HK1.out;have:=HK2.out;omega⟩,⟨by exact HO_4.out⟩,⟨by exact HO_8.out⟩,⟨by exact HO_9.out⟩,⟨by exact HO_19.out⟩,⟨by exact HO_34.out⟩,⟨by exact HO_212000.out⟩,⟨by exact HO_212001.out⟩,⟨by exact BK205.out⟩,⟨by exact BK206.out⟩,⟨by exact BK211.out⟩,⟨by exact HB.out⟩⟩
            ·rw [if_neg c30] at H
             exact absurd H (by simp)
           ·rw [if_neg c29] at H
            exact absurd H (by simp)
          ·rw [if_neg c28] at H
           have c28b0:decide (x36_2 < (t208.length:Int)) = false:=decide_eq_false c28
           clear c28
           by_cases c36:0 ≤ x21_1
           ·rw [if_pos c36] at H
            have c36b0:decide (0 ≤ x21_1) = true:=decide_eq_true c36
            clear c36
            by_cases c37:x21_1 < (l0_0.length:Int)
            ·rw [if_pos c37] at H
             have c37b0:decide (x21_1 < (l0_0.length:Int)) = true:=decide_eq_true c37
             clear c37
             by_cases c38:x212000_1.length < 17592186044416
             ·rw [if_pos c38] at H
              have LMc38:=Aside0.mk c38
              clear c38
              obtain ⟨y225,hy225⟩:∃ y_:List Int,y_ = (x212000_1 ++ [rd l0_0 x21_1]):=⟨_,rfl⟩
              replace H:(if x212001_1.length < 5864062014805 then (impl_ChancesFold.l0 k2 t208 t208 (t208.length:Int) (wrap64 (x21_1 + 1)) l0_0 l0_1 y225 (x212001_1 ++ [x8_2])) else (none)) = some (r1,r2,r3):=by rw [hy225];exact H
              have Ny225:=Aside0.mk hy225
              clear hy225
              by_cases c39:x212001_1.length < 5864062014805
              ·rw [if_pos c39] at H
               have LMc39:=Aside0.mk c39
               clear c39
               obtain ⟨y228,hy228⟩:∃ y_:List (List Int),y_ = (x212001_1 ++ [x8_2]):=⟨_,rfl⟩
               replace H:(impl_ChancesFold.l0 k2 t208 t208 (t208.length:Int) (wrap64 (x21_1 + 1)) l0_0 l0_1 y225 y228) = some (r1,r2,r3):=by rw [hy228];exact H
               have Ny228:=Aside0.mk hy228
               clear hy228
               have H':=Aside0.mk H
               clear H
               try go_wp2
               have n0_:=Aside0.mk (Kd.R_drew HO_4.out)
               have n1_:=Aside0.mk (Kd.R_drew HO_8.out)
               have n2_:=Aside0.mk (Kd.R_drew HO_9.out)
               have n3_:=Aside0.mk (Kd.R_drew HO_19.out)
               have n4_:=Aside0.mk (Kd.R_drew HO_34.out)
               have n5_:=Aside0.mk (Kd.R_drew HO_212000.out)
               have n6_:=Aside0.mk (Kd.N_drew HO_212001.out)
               have n7_:=Aside0.mk (blk_drew BK205.out)
               have n8_:=Aside0.mk (blk_drew BK206.out)
               have n9_:=Aside0.mk (blk_drew BK211.out)
               have n10_:=Aside0.mk (below_drew1 HB.out)
               clear HO_4
               clear HO_8
               clear HO_9
               clear HO_19
               clear HO_34
               clear HO_212000
               clear HO_212001
               clear BK205
               clear BK206
               clear BK211
               clear HB
               have HO_4:=n0_
               have HO_8:=n1_
               have HO_9:=n2_
               have HO_19:=n3_
               have HO_34:=n4_
               have HO_212000:=n5_
               have HO_212001:=n6_
               have BK205:=n7_
               have BK206:=n8_
               have BK211:=n9_
               have HB:=n10_
               clear n0_ n1_ n2_ n3_ n4_ n5_ n6_ n7_ n8_ n9_ n10_
               have p224:0 ≤ (x21_1:Int):=of_decide_eq_true (by assumption)
               have q224:x21_1 < (l0_0.length:Int):=of_decide_eq_true (by assumption)
               obtain ⟨ad224,e224,hx224_0⟩:=Kd.at_int HR0_0.out x21_1 p224 q224
               have hw224_0:=hx224_0
               cases e224
               replace hx224_0:=(HB.out.cell (World.block_lt_of_cell? w _ hx224_0)).trans hx224_0
               replace p224:=eq_true p224
               replace q224:=eq_true q224
               refine start_ (n:=11) (S:=fun w'=>w'.cell? ⟨gb211,0,none⟩ = some (u212000)∧w'.cell? ⟨gb211,1,none⟩ = some (u212001)∧w'.cell? ⟨gb205,0,none⟩ = some (.slice (some ad224) l0_0.length c0_0)∧w'.cell? ⟨gb205,1,none⟩ = some (.slice A0_1 l0_1.length c0_1)∧w'.cell? (ad224.add (x21_1).toNat) = some (.int .i64 (rd l0_0 x21_1))) (ds:=[10]) #[false,false,false,false,false,false,false,false,false,false,false] (by kernel_rfl) rfl rfl ⟨(blk_cell BK211.out 0).trans rfl,(blk_cell BK211.out 1).trans rfl,(blk_cell BK205.out 0).trans rfl,(blk_cell BK205.out 1).trans rfl,((HB.out.cell (World.block_lt_of_cell? w _ hw224_0)).trans hw224_0)⟩ (fun hHeld=>?_);refine with_tabW impl_ChancesFold.tab15 impl_ChancesFold.bits15 (fun HT_ HW_=>?_)
               generalize wr.drew = w40 at HO_4 HO_8 HO_9 HO_19 HO_34 HO_212000 HO_212001 BK205 BK206 BK211 HB hx224_0 hHeld ⊢
               refine pure_ (i:=0) (N:=some 52) (v:=?_) (a':=?_) #[true,false,false,false,false,false,false,false,false,false,false] rfl rfl (any_of HT_.out (by kernel_rfl)) (fun _ _ _ h=>h) (Or.inl ⟨by rfl,?_⟩) ?_ ?_
               rotate_left;·intro w';go_simp;with_reducible rfl
               rotate_left;·simp only [Act.put,List.setIfInBounds_toArray,List.set_cons_zero,List.set_cons_succ,i64_w,i32_w];rfl
               refine pure_ (i:=2) (N:=some 54) (v:=?_) (a':=?_) #[true,false,true,false,false,false,false,false,false,false,false] rfl rfl (any_of HT_.out (by kernel_rfl)) (fun _ _ _ h=>h) (Or.inl ⟨by rfl,?_⟩) ?_ ?_
               rotate_left;·intro w';go_simp;with_reducible rfl
               rotate_left;·simp only [Act.put,List.setIfInBounds_toArray,List.set_cons_zero,List.set_cons_succ,i64_w,i32_w];rfl
               refine pure_ (i:=4) (N:=some 56) (v:=?_) (a':=?_) #[true,false,true,false,true,false,false,false,false,false,false] rfl rfl (any_of HT_.out (by kernel_rfl)) (fun _ _ _ h=>h) (Or.inl ⟨by rfl,?_⟩) ?_ ?_
               rotate_left;·intro w';go_simp;with_reducible rfl
               rotate_left;·simp only [Act.put,List.setIfInBounds_toArray,List.set_cons_zero,List.set_cons_succ,i64_w,i32_w];rfl
               refine take_ (i:=1) (N:=some 53) (v:=?_) (a':=?_) #[true,true,true,false,true,false,false,false,false,false,false] rfl rfl (take_ofW HT_.out HW_.out (by kernel_rfl)) (fun _ _ _ h=>h) (Or.inl ⟨by rfl,?_⟩) hHeld ?_ ?_
               rotate_left;·rintro w' ⟨s0,s1,s2,s3,s4⟩;go_simp;with_reducible rfl
               rotate_left;·simp only [Act.put,List.setIfInBounds_toArray,List.set_cons_zero,List.set_cons_succ,i64_w,i32_w];rfl
               refine take_ (i:=3) (N:=some 55) (v:=?_) (a':=?_) #[true,true,true,true,true,false,false,false,false,false,false] rfl rfl (take_ofW HT_.out HW_.out (by kernel_rfl)) (fun _ _ _ h=>h) (Or.inl ⟨by rfl,?_⟩) hHeld ?_ ?_
               rotate_left;·rintro w' ⟨s0,s1,s2,s3,s4⟩;go_simp;with_reducible rfl
               rotate_left;·simp only [Act.put,List.setIfInBounds_toArray,List.set_cons_zero,List.set_cons_succ,i64_w,i32_w];rfl
               refine pure_ (i:=5) (N:=some 57) (v:=?_) (a':=?_) #[true,true,true,true,true,true,false,false,false,false,false] rfl rfl (any_of HT_.out (by kernel_rfl)) (fun _ _ _ h=>h) (Or.inl ⟨by rfl,?_⟩) ?_ ?_
               rotate_left;·intro w';go_simp;with_reducible rfl
               rotate_left;·simp only [Act.put,List.setIfInBounds_toArray,List.set_cons_zero,List.set_cons_succ,i64_w,i32_w];rfl
               refine take_ (i:=6) (N:=some 58) (v:=?_) (a':=?_) #[true,true,true,true,true,true,true,false,false,false,false] rfl rfl (take_ofW HT_.out HW_.out (by kernel_rfl)) (fun _ _ _ h=>h) (Or.inl ⟨by rfl,?_⟩) hHeld ?_ ?_
               rotate_left;·rintro w' ⟨s0,s1,s2,s3,s4⟩;go_simp;with_reducible rfl
               rotate_left;·simp only [Act.put,List.setIfInBounds_toArray,List.set_cons_zero,List.set_cons_succ,i64_w,i32_w];rfl
               refine one_ (i:=7) (N:=some 59) #[true,true,true,true,true,true,true,true,false,false,false] rfl rfl (one_of HT_.out (by kernel_rfl)) (by decide) (fun K hK=>?_)
               refine value_ (w1:=?_) (v:=?_) (by rfl) rfl ?_ ?_
               rotate_left 2
               ·go_simp
                constructor
                ·rfl
                ·rfl
               refine hK.out _ _ ⟨(blk_cell (blk_alloc BK211.out _) 0).trans rfl,(blk_cell (blk_alloc BK211.out _) 1).trans rfl,(blk_cell (blk_alloc BK205.out _) 0).trans rfl,(blk_cell (blk_alloc BK205.out _) 1).trans rfl,(World.cell?_alloc_lt _ _ _ (World.block_lt_of_cell? _ _ (((HB.out.cell (World.block_lt_of_cell? w _ hw224_0)).trans hw224_0)))).trans (((HB.out.cell (World.block_lt_of_cell? w _ hw224_0)).trans hw224_0))⟩ (fun hHeld=>?_)
               clear hK K
               refine norm_ (a':=?_) ?_ ?_
               rotate_left
               ·show Act.put _ (some 59) _ = _
                simp only [Act.put,List.setIfInBounds_toArray,List.set_cons_zero,List.set_cons_succ,i64_w,i32_w]
                rfl
               refine one_ (i:=8) (N:=some 60) #[true,true,true,true,true,true,true,true,true,false,false] rfl rfl (one_of HT_.out (by kernel_rfl)) (by decide) (fun K hK=>?_)
               refine Kd.R_append_step (Kd.int .i64) (w0:=w) w.heap.size (by rfl) (.tmp 53) (.tmp 59) 22 3 (.int .i64 0) 8 rfl Try.underlying22 info3 rfl (by decide) (by omega) u212000 x212000_1 (rd l0_0 x21_1) [.int .i64 (rd l0_0 x21_1)] (fun k_=>(w.heap.size ≤ k_)∧some k_ ≠ (.slice (some ad212) t208.length co16:Value).ownBlock∧some k_ ≠ (u8:Value).ownBlock∧some k_ ≠ (v217:Value).ownBlock∧some k_ ≠ (.slice (some ad212) t208.length co16:Value).ownBlock∧some k_ ≠ (.slice (some ad212) t208.length co16:Value).ownBlock) (fun _=>False) rfl rfl ?aP (fun _ hk=>hk.elim) ?aF ?aO ?aB ?aS ?aL ?_
               (case aP=>exact rfl)
               (case aB=>exact (by exact HB.out))
               (case aF=>exact (fun k_ hk=>⟨(Nat.le_trans (below_size (by exact HB.out)) hk),Kd.fresh' (Kd.R_lt (by exact HO_4.out)) k_ hk,Kd.fresh' (Kd.R_lt (by exact HO_8.out)) k_ hk,Kd.fresh' (Kd.R_lt (by exact HO_9.out)) k_ hk,Kd.fresh' (Kd.R_lt (by exact HO_19.out)) k_ hk,Kd.fresh' (Kd.R_lt (by exact HO_34.out)) k_ hk⟩))
               (case aO=>exact (by exact HO_212000.out))
               (case aS=>exact (below_size (by exact HB.out)))
               (case aL=>have:=LMc38.out;omega)
               intro v226 w41 ho hb hg hat
               rw [← Ny225.out] at ho
               have n0_:=Aside0.mk (Kd.R_after (ok:=(fun k_=>(w.heap.size ≤ k_)∧some k_ ≠ (u8:Value).ownBlock∧some k_ ≠ (v217:Value).ownBlock)) (by exact Kd.R_mono HO_4.out (fun _ hk=>⟨⟨hk.1,⟨hk.2.1,hk.2.2.1⟩⟩,hk.2.2.2⟩)) hg hat)
               have n1_:=Aside0.mk (Kd.R_after (ok:=(fun k_=>(w.heap.size ≤ k_)∧some k_ ≠ (.slice (some ad212) t208.length co16:Value).ownBlock∧some k_ ≠ (v217:Value).ownBlock∧some k_ ≠ (.slice (some ad212) t208.length co16:Value).ownBlock∧some k_ ≠ (.slice (some ad212) t208.length co16:Value).ownBlock)) (by exact Kd.R_mono HO_8.out (fun _ hk=>⟨⟨hk.1,⟨hk.2.1,⟨hk.2.2.1,⟨hk.2.2.2.1,hk.2.2.2.2.1⟩⟩⟩⟩,hk.2.2.2.2.2⟩)) hg hat)
               have n2_:=Aside0.mk (Kd.R_after (ok:=(fun k_=>(w.heap.size ≤ k_)∧some k_ ≠ (.slice (some ad212) t208.length co16:Value).ownBlock∧some k_ ≠ (u8:Value).ownBlock∧some k_ ≠ (.slice (some ad212) t208.length co16:Value).ownBlock∧some k_ ≠ (.slice (some ad212) t208.length co16:Value).ownBlock)) (by exact Kd.R_mono HO_9.out (fun _ hk=>⟨⟨hk.1,⟨hk.2.1,⟨hk.2.2.1,⟨hk.2.2.2.1,hk.2.2.2.2.1⟩⟩⟩⟩,hk.2.2.2.2.2⟩)) hg hat)
               have n3_:=Aside0.mk (Kd.R_after (ok:=(fun k_=>(w.heap.size ≤ k_)∧some k_ ≠ (u8:Value).ownBlock∧some k_ ≠ (v217:Value).ownBlock)) (by exact Kd.R_mono HO_19.out (fun _ hk=>⟨⟨hk.1,⟨hk.2.1,hk.2.2.1⟩⟩,hk.2.2.2⟩)) hg hat)
               have n4_:=Aside0.mk (Kd.R_after (ok:=(fun k_=>(w.heap.size ≤ k_)∧some k_ ≠ (u8:Value).ownBlock∧some k_ ≠ (v217:Value).ownBlock)) (by exact Kd.R_mono HO_34.out (fun _ hk=>⟨⟨hk.1,⟨hk.2.1,hk.2.2.1⟩⟩,hk.2.2.2⟩)) hg hat)
               have n5_:=Aside0.mk (Kd.N_afterv (ok:=(fun k_=>(w.heap.size ≤ k_)∧some k_ ≠ (.slice (some ad212) t208.length co16:Value).ownBlock∧some k_ ≠ (u8:Value).ownBlock∧some k_ ≠ (v217:Value).ownBlock∧some k_ ≠ (.slice (some ad212) t208.length co16:Value).ownBlock∧some k_ ≠ (.slice (some ad212) t208.length co16:Value).ownBlock∧k_ ≠ gb205∧k_ ≠ gb206∧k_ ≠ gb211)) (by exact Kd.N_mono HO_212001.out (fun _ hk=>⟨⟨hk.1,⟨hk.2.1,⟨hk.2.2.1,⟨hk.2.2.2.1,⟨hk.2.2.2.2.1,⟨hk.2.2.2.2.2.1,⟨hk.2.2.2.2.2.2.2.1,⟨hk.2.2.2.2.2.2.2.2.1,hk.2.2.2.2.2.2.2.2.2⟩⟩⟩⟩⟩⟩⟩⟩,hk.2.2.2.2.2.2.1⟩)) hg hat)
               have n6_:=Aside0.mk (blk_grown (g:=gb205) (o:=.cells #[.slice (some ad224) l0_0.length c0_0,.slice A0_1 l0_1.length c0_1] 28 (0,0)) (by exact BK205.out) hg (Kd.R_ne HO_212000.out BK205.out (by decide)))
               have n7_:=Aside0.mk (blk_grown (g:=gb206) (o:=.cells #[.slice none 0 0,.slice none 0 0] 28 (0,0)) (by exact BK206.out) hg (Kd.R_ne HO_212000.out BK206.out (by decide)))
               have n8_:=Aside0.mk (blk_grown (g:=gb211) (o:=.cells #[u212000,u212001] 28 (0,0)) (by exact BK211.out) hg (Kd.R_ne HO_212000.out BK211.out (by decide)))
               have n9_:=Aside0.mk (hb)
               have n10_:=Aside0.mk (ho)
               clear HO_4
               clear HO_8
               clear HO_9
               clear HO_19
               clear HO_34
               clear HO_212001
               clear BK205
               clear BK206
               clear BK211
               clear HB
               clear HO_212000
               have HO_4:=n0_
               have HO_8:=n1_
               have HO_9:=n2_
               have HO_19:=n3_
               have HO_34:=n4_
               have HO_212001:=n5_
               have BK205:=n6_
               have BK206:=n7_
               have BK211:=n8_
               have HB:=n9_
               have HO227:=n10_
               clear n0_ n1_ n2_ n3_ n4_ n5_ n6_ n7_ n8_ n9_ n10_
               clear ho hb hg hat
               obtain ⟨Ao42,co42,eo42⟩:=Kd.R_slice HO227.out
               (first | subst eo42 | (injection eo42 with f1_ f2_ f3_;have f4_:=f1_.symm;have f5_:=f3_.symm;clear f1_ f2_ f3_;subst f4_;subst f5_))
               refine hK.out _ _ ⟨(blk_cell BK211.out 0).trans rfl,(blk_cell BK211.out 1).trans rfl,(blk_cell BK205.out 0).trans rfl,(blk_cell BK205.out 1).trans rfl,((HB.out.cell (World.block_lt_of_cell? w _ hw224_0)).trans hw224_0)⟩ (fun hHeld=>?_)
               clear hK K
               refine norm_ (a':=?_) ?_ ?_
               rotate_left
               ·show Act.put _ (some 60) _ = _
                simp only [Act.put,List.setIfInBounds_toArray,List.set_cons_zero,List.set_cons_succ,i64_w,i32_w]
                rfl
               refine pure_ (i:=9) (N:=some 61) (v:=?_) (a':=?_) #[true,true,true,true,true,true,true,true,true,true,false] rfl rfl (any_of HT_.out (by kernel_rfl)) (fun _ _ _ h=>h) (Or.inl ⟨by rfl,?_⟩) ?_ ?_
               rotate_left;·intro w';go_simp;with_reducible rfl
               rotate_left;·simp only [Act.put,List.setIfInBounds_toArray,List.set_cons_zero,List.set_cons_succ,i64_w,i32_w];rfl
               refine last_ (i:=10) (N:=none) #[true,true,true,true,true,true,true,true,true,true,true] rfl rfl (one_of HT_.out (by kernel_rfl)) (by decide) (fun K hK=>?_)
               have hs43:w41.cell? ⟨gb211,0,none⟩ = some (u212000):=(blk_cell BK211.out 0).trans rfl
               have hfs43:=blk_frozen BK211.out 0
               have hns43_0:=NB205_211.out
               have hns43_1:=NB206_211.out
               have hms43_0:=NB211_205.out
               have hms43_1:=NB211_206.out
               refine skip_ (w1:=?_) (by rfl) rfl ?_ ?_
               rotate_left
               ·go_simp
                rfl
               refine hK.out _ _ ?_
               clear hK K
               refine done_ (done_of HT_.out (by kernel_rfl)) ?_
               have n0_:Aside0 (Kd.R (Kd.int .i64) 3 (w41.setCell ⟨gb211,0,none⟩ (.slice Ao42 y225.length co42)) w.heap.size (fun k_=>(w.heap.size ≤ k_)∧some k_ ≠ (u8:Value).ownBlock∧some k_ ≠ (v217:Value).ownBlock∧some k_ ≠ (.slice Ao42 y225.length co42:Value).ownBlock) (.slice (some ad212) t208.length co16) t208):=⟨by exact Kd.R_mono (Kd.R_far (p:=⟨gb211,0,none⟩) (Kd.R_types HO_4.out BK211.out (by decide)) (fun _ hk=>hk.2) (.slice Ao42 y225.length co42)) (fun _ hk=>⟨hk.1.1.1,⟨hk.1.1.2.1,⟨hk.1.1.2.2,hk.1.2⟩⟩⟩)⟩
               have n1_:Aside0 (Kd.R (Kd.int .i64) 3 (w41.setCell ⟨gb211,0,none⟩ (.slice Ao42 y225.length co42)) w.heap.size (fun k_=>(w.heap.size ≤ k_)∧some k_ ≠ (.slice (some ad212) t208.length co16:Value).ownBlock∧some k_ ≠ (v217:Value).ownBlock∧some k_ ≠ (.slice (some ad212) t208.length co16:Value).ownBlock∧some k_ ≠ (.slice (some ad212) t208.length co16:Value).ownBlock∧some k_ ≠ (.slice Ao42 y225.length co42:Value).ownBlock) u8 x8_2):=⟨by exact Kd.R_mono (Kd.R_far (p:=⟨gb211,0,none⟩) (Kd.R_types HO_8.out BK211.out (by decide)) (fun _ hk=>hk.2) (.slice Ao42 y225.length co42)) (fun _ hk=>⟨hk.1.1.1,⟨hk.1.1.2.1,⟨hk.1.1.2.2.1,⟨hk.1.1.2.2.2.1,⟨hk.1.1.2.2.2.2,hk.1.2⟩⟩⟩⟩⟩)⟩
               have n2_:Aside0 (Kd.R (Kd.int .i64) 3 (w41.setCell ⟨gb211,0,none⟩ (.slice Ao42 y225.length co42)) w.heap.size (fun k_=>(w.heap.size ≤ k_)∧some k_ ≠ (.slice (some ad212) t208.length co16:Value).ownBlock∧some k_ ≠ (u8:Value).ownBlock∧some k_ ≠ (.slice (some ad212) t208.length co16:Value).ownBlock∧some k_ ≠ (.slice (some ad212) t208.length co16:Value).ownBlock∧some k_ ≠ (.slice Ao42 y225.length co42:Value).ownBlock) v217 t216):=⟨by exact Kd.R_mono (Kd.R_far (p:=⟨gb211,0,none⟩) (Kd.R_types HO_9.out BK211.out (by decide)) (fun _ hk=>hk.2) (.slice Ao42 y225.length co42)) (fun _ hk=>⟨hk.1.1.1,⟨hk.1.1.2.1,⟨hk.1.1.2.2.1,⟨hk.1.1.2.2.2.1,⟨hk.1.1.2.2.2.2,hk.1.2⟩⟩⟩⟩⟩)⟩
               have n3_:Aside0 (Kd.R (Kd.int .i64) 3 (w41.setCell ⟨gb211,0,none⟩ (.slice Ao42 y225.length co42)) w.heap.size (fun k_=>(w.heap.size ≤ k_)∧some k_ ≠ (u8:Value).ownBlock∧some k_ ≠ (v217:Value).ownBlock∧some k_ ≠ (.slice Ao42 y225.length co42:Value).ownBlock) (.slice (some ad212) t208.length co16) t208):=⟨by exact Kd.R_mono (Kd.R_far (p:=⟨gb211,0,none⟩) (Kd.R_types HO_19.out BK211.out (by decide)) (fun _ hk=>hk.2) (.slice Ao42 y225.length co42)) (fun _ hk=>⟨hk.1.1.1,⟨hk.1.1.2.1,⟨hk.1.1.2.2,hk.1.2⟩⟩⟩)⟩
               have n4_:Aside0 (Kd.R (Kd.int .i64) 3 (w41.setCell ⟨gb211,0,none⟩ (.slice Ao42 y225.length co42)) w.heap.size (fun k_=>(w.heap.size ≤ k_)∧some k_ ≠ (u8:Value).ownBlock∧some k_ ≠ (v217:Value).ownBlock∧some k_ ≠ (.slice Ao42 y225.length co42:Value).ownBlock) (.slice (some ad212) t208.length co16) t208):=⟨by exact Kd.R_mono (Kd.R_far (p:=⟨gb211,0,none⟩) (Kd.R_types HO_34.out BK211.out (by decide)) (fun _ hk=>hk.2) (.slice Ao42 y225.length co42)) (fun _ hk=>⟨hk.1.1.1,⟨hk.1.1.2.1,⟨hk.1.1.2.2,hk.1.2⟩⟩⟩)⟩
               have n5_:Aside0 (Kd.N (Kd.slice 3 (Kd.int .i64)) 22 (w41.setCell ⟨gb211,0,none⟩ (.slice Ao42 y225.length co42)) w.heap.size (fun k_=>(w.heap.size ≤ k_)∧some k_ ≠ (.slice (some ad212) t208.length co16:Value).ownBlock∧some k_ ≠ (u8:Value).ownBlock∧some k_ ≠ (v217:Value).ownBlock∧some k_ ≠ (.slice (some ad212) t208.length co16:Value).ownBlock∧some k_ ≠ (.slice (some ad212) t208.length co16:Value).ownBlock∧some k_ ≠ (.slice Ao42 y225.length co42:Value).ownBlock∧k_ ≠ gb205∧k_ ≠ gb206∧k_ ≠ gb211) u212001 x212001_1):=⟨by exact Kd.N_mono (Kd.N_far (p:=⟨gb211,0,none⟩) (Kd.N_mono HO_212001.out (fun k_ hk=>(⟨hk,hk.1.2.2.2.2.2.2.2.2⟩:_∧k_ ≠ gb211))) (fun _ hk=>hk.2) (.slice Ao42 y225.length co42)) (fun _ hk=>⟨hk.1.1.1,⟨hk.1.1.2.1,⟨hk.1.1.2.2.1,⟨hk.1.1.2.2.2.1,⟨hk.1.1.2.2.2.2.1,⟨hk.1.1.2.2.2.2.2.1,⟨hk.1.2,⟨hk.1.1.2.2.2.2.2.2.1,⟨hk.1.1.2.2.2.2.2.2.2.1,hk.1.1.2.2.2.2.2.2.2.2⟩⟩⟩⟩⟩⟩⟩⟩⟩)⟩
               have n6_:Aside0 (Kd.R (Kd.int .i64) 3 (w41.setCell ⟨gb211,0,none⟩ (.slice Ao42 y225.length co42)) w.heap.size (fun k_=>(w.heap.size ≤ k_)∧some k_ ≠ (.slice (some ad212) t208.length co16:Value).ownBlock∧some k_ ≠ (u8:Value).ownBlock∧some k_ ≠ (v217:Value).ownBlock∧some k_ ≠ (.slice (some ad212) t208.length co16:Value).ownBlock∧some k_ ≠ (.slice (some ad212) t208.length co16:Value).ownBlock) (.slice Ao42 y225.length co42) y225):=⟨by exact Kd.R_mono (Kd.R_far (p:=⟨gb211,0,none⟩) (Kd.R_types HO227.out BK211.out (by decide)) (fun _ hk=>hk.2) (.slice Ao42 y225.length co42)) (fun _ hk=>⟨hk.1.1,⟨hk.1.2.1,⟨hk.1.2.2.1,⟨hk.1.2.2.2.1,⟨hk.1.2.2.2.2.1,hk.1.2.2.2.2.2⟩⟩⟩⟩⟩)⟩
               have n7_:Aside0 ((w41.setCell ⟨gb211,0,none⟩ (.slice Ao42 y225.length co42)).heap[gb205]? = some (.cells #[.slice (some ad224) l0_0.length c0_0,.slice A0_1 l0_1.length c0_1] 28 (0,0))):=⟨by refine blk_far ?_ NB205_211.out _;exact BK205.out⟩
               have n8_:Aside0 ((w41.setCell ⟨gb211,0,none⟩ (.slice Ao42 y225.length co42)).heap[gb206]? = some (.cells #[.slice none 0 0,.slice none 0 0] 28 (0,0))):=⟨by refine blk_far ?_ NB206_211.out _;exact BK206.out⟩
               have n9_:Aside0 ((w41.setCell ⟨gb211,0,none⟩ (.slice Ao42 y225.length co42)).heap[gb211]? = some (.cells #[.slice Ao42 y225.length co42,u212001] 28 (0,0))):=⟨by refine blk_put (cs:=#[u212000,u212001]) ?_ 0 _ rfl;exact BK211.out⟩
               have n10_:Aside0 (Below w.heap.size w (w41.setCell ⟨gb211,0,none⟩ (.slice Ao42 y225.length co42))):=⟨by repeat (with_reducible first | exact HB.out | apply below_alloc | apply pw_below_drewN | apply below_drew1 | refine below_set ?_ GE205.out | refine below_set ?_ GE206.out | refine below_set ?_ GE211.out)⟩
               (try clear HO_4)
               (try clear HO_8)
               (try clear HO_9)
               (try clear HO_19)
               (try clear HO_34)
               (try clear HO_212001)
               (try clear HO227)
               (try clear BK205)
               (try clear BK206)
               (try clear BK211)
               (try clear HB)
               generalize (w41.setCell ⟨gb211,0,none⟩ (.slice Ao42 y225.length co42)) = w44 at n0_ n1_ n2_ n3_ n4_ n5_ n6_ n7_ n8_ n9_ n10_ ⊢
               have HO_4:=n0_
               have HO_8:=n1_
               have HO_9:=n2_
               have HO_19:=n3_
               have HO_34:=n4_
               have HO_212001:=n5_
               have HO227:=n6_
               have BK205:=n7_
               have BK206:=n8_
               have BK211:=n9_
               have HB:=n10_
               clear n0_ n1_ n2_ n3_ n4_ n5_ n6_ n7_ n8_ n9_ n10_
               have hnb45:=NB211_205.out
               have hnc45:=NB205_211.out
               have hnb46:=NB211_206.out
               have hnc46:=NB206_211.out
               have hcz47_0:w44.cell? ⟨gb211,0,none⟩ = some (.slice Ao42 y225.length co42):=(blk_cell BK211.out 0).trans rfl
               have hcz47_1:w44.cell? ⟨gb211,1,none⟩ = some (u212001):=(blk_cell BK211.out 1).trans rfl
               have hfz47_0:=blk_frozen BK211.out 0
               have hfz47_1:=blk_frozen BK211.out 1
               obtain ⟨Ao49,co49,eo49⟩:=Kd.R_slice HO_8.out
               subst eo49
               try go_wp2_with (first | ((with_reducible refine gate_builtin (b:=.append) (xs:=#[.tmp 63,.tmp 65]) rfl ?_);at_builtin;refine Kd.N_append (Kd.slice 3 (Kd.int .i64)) (w0:=w) w.heap.size rfl (.tmp 63) (.tmp 65) 23 22 (.slice none 0 0) 24 rfl Try.underlying23 info22 rfl (by decide) (by omega) u212001 x212001_1 x8_2 [.slice Ao49 x8_2.length co49] (fun k_=>(w.heap.size ≤ k_)∧some k_ ≠ (.slice (some ad212) t208.length co16:Value).ownBlock∧some k_ ≠ (v217:Value).ownBlock∧some k_ ≠ (.slice (some ad212) t208.length co16:Value).ownBlock∧some k_ ≠ (.slice (some ad212) t208.length co16:Value).ownBlock∧some k_ ≠ (.slice Ao42 y225.length co42:Value).ownBlock∧k_ ≠ gb205∧k_ ≠ gb206∧k_ ≠ gb211) (fun k_=>((fun k_=>(w.heap.size ≤ k_)∧some k_ ≠ (.slice (some ad212) t208.length co16:Value).ownBlock∧some k_ ≠ (v217:Value).ownBlock∧some k_ ≠ (.slice (some ad212) t208.length co16:Value).ownBlock∧some k_ ≠ (.slice (some ad212) t208.length co16:Value).ownBlock∧some k_ ≠ (.slice Ao42 y225.length co42:Value).ownBlock∧k_ ≠ gb205∧k_ ≠ gb206∧k_ ≠ gb211)) k_∧some k_ ≠ (u212001:Value).ownBlock) rfl rfl ?aP (fun _ hk=>hk) ?aF ?aO ?aB ?aS ?aL ?_;(case aP=>exact (Kd.FK_slice_mk (Kd.R_reads' (Kd.R_mono (ok':=(fun k_=>((fun k_=>(w.heap.size ≤ k_)∧some k_ ≠ (.slice (some ad212) t208.length co16:Value).ownBlock∧some k_ ≠ (v217:Value).ownBlock∧some k_ ≠ (.slice (some ad212) t208.length co16:Value).ownBlock∧some k_ ≠ (.slice (some ad212) t208.length co16:Value).ownBlock∧some k_ ≠ (.slice Ao42 y225.length co42:Value).ownBlock∧k_ ≠ gb205∧k_ ≠ gb206∧k_ ≠ gb211)) k_∧some k_ ≠ (u212001:Value).ownBlock)) (Kd.R_types (Kd.R_types (Kd.R_types (Kd.R_apart' (HO_8.out) (Kd.N_typed HO_212001.out) (by decide)) BK205.out (by decide)) BK206.out (by decide)) BK211.out (by decide)) (fun k_ hk=>⟨⟨hk.1.1.1.1.1,⟨hk.1.1.1.1.2.1,⟨hk.1.1.1.1.2.2.1,⟨hk.1.1.1.1.2.2.2.1,⟨hk.1.1.1.1.2.2.2.2.1,⟨hk.1.1.1.1.2.2.2.2.2,⟨hk.1.1.2,⟨hk.1.2,hk.2⟩⟩⟩⟩⟩⟩⟩⟩,hk.1.1.1.2⟩))).2.1 (Kd.R_F (Kd.R_mono (ok':=(fun k_=>((fun k_=>(w.heap.size ≤ k_)∧some k_ ≠ (.slice (some ad212) t208.length co16:Value).ownBlock∧some k_ ≠ (v217:Value).ownBlock∧some k_ ≠ (.slice (some ad212) t208.length co16:Value).ownBlock∧some k_ ≠ (.slice (some ad212) t208.length co16:Value).ownBlock∧some k_ ≠ (.slice Ao42 y225.length co42:Value).ownBlock∧k_ ≠ gb205∧k_ ≠ gb206∧k_ ≠ gb211)) k_∧some k_ ≠ (u212001:Value).ownBlock)) (Kd.R_types (Kd.R_types (Kd.R_types (Kd.R_apart' (HO_8.out) (Kd.N_typed HO_212001.out) (by decide)) BK205.out (by decide)) BK206.out (by decide)) BK211.out (by decide)) (fun k_ hk=>⟨⟨hk.1.1.1.1.1,⟨hk.1.1.1.1.2.1,⟨hk.1.1.1.1.2.2.1,⟨hk.1.1.1.1.2.2.2.1,⟨hk.1.1.1.1.2.2.2.2.1,⟨hk.1.1.1.1.2.2.2.2.2,⟨hk.1.1.2,⟨hk.1.2,hk.2⟩⟩⟩⟩⟩⟩⟩⟩,hk.1.1.1.2⟩)))));(case aB=>exact (by exact HB.out));(case aF=>exact (fun k_ hk=>⟨(Nat.le_trans (below_size (by exact HB.out)) hk),Kd.fresh' (Kd.R_lt (by exact HO_4.out)) k_ hk,Kd.fresh' (Kd.R_lt (by exact HO_9.out)) k_ hk,Kd.fresh' (Kd.R_lt (by exact HO_19.out)) k_ hk,Kd.fresh' (Kd.R_lt (by exact HO_34.out)) k_ hk,Kd.fresh' (Kd.R_lt (by exact HO227.out)) k_ hk,Kd.freshB (g:=gb205) (o:=.cells #[.slice (some ad224) l0_0.length c0_0,.slice A0_1 l0_1.length c0_1] 28 (0,0)) (by exact BK205.out) k_ hk,Kd.freshB (g:=gb206) (o:=.cells #[.slice none 0 0,.slice none 0 0] 28 (0,0)) (by exact BK206.out) k_ hk,Kd.freshB (g:=gb211) (o:=.cells #[.slice Ao42 y225.length co42,u212001] 28 (0,0)) (by exact BK211.out) k_ hk⟩));(case aO=>exact (by exact Kd.N_mono HO_212001.out (fun _ hk=>⟨hk.1,⟨hk.2.1,⟨hk.2.2.2.1,⟨hk.2.2.2.2.1,⟨hk.2.2.2.2.2.1,⟨hk.2.2.2.2.2.2.1,⟨hk.2.2.2.2.2.2.2.1,⟨hk.2.2.2.2.2.2.2.2.1,hk.2.2.2.2.2.2.2.2.2⟩⟩⟩⟩⟩⟩⟩⟩)));(case aS=>exact (below_size (by exact HB.out)));(case aL=>have:=LMc39.out;omega);intro v229 w48 ho hb hg hat;rw [← Ny228.out] at ho;have n0_:=Aside0.mk (Kd.R_over' (by exact HO_4.out) (Kd.N_typed (by exact HO_212001.out)) (by decide) hg);have n1_:=Aside0.mk (Kd.R_over' (by exact HO_9.out) (Kd.N_typed (by exact HO_212001.out)) (by decide) hg);have n2_:=Aside0.mk (Kd.R_over' (by exact HO_19.out) (Kd.N_typed (by exact HO_212001.out)) (by decide) hg);have n3_:=Aside0.mk (Kd.R_over' (by exact HO_34.out) (Kd.N_typed (by exact HO_212001.out)) (by decide) hg);have n4_:=Aside0.mk (blk_grown (g:=gb205) (o:=.cells #[.slice (some ad224) l0_0.length c0_0,.slice A0_1 l0_1.length c0_1] 28 (0,0)) (by exact BK205.out) hg (Kd.N_ne HO_212001.out BK205.out (by decide)));have n5_:=Aside0.mk (blk_grown (g:=gb206) (o:=.cells #[.slice none 0 0,.slice none 0 0] 28 (0,0)) (by exact BK206.out) hg (Kd.N_ne HO_212001.out BK206.out (by decide)));have n6_:=Aside0.mk (blk_grown (g:=gb211) (o:=.cells #[.slice Ao42 y225.length co42,u212001] 28 (0,0)) (by exact BK211.out) hg (Kd.N_ne HO_212001.out BK211.out (by decide)));have n7_:=Aside0.mk (Kd.R_over' (by exact HO227.out) (Kd.N_typed (by exact HO_212001.out)) (by decide) hg);have n8_:=Aside0.mk (hb);have n9_:=Aside0.mk (ho);clear HO_4;clear HO_9;clear HO_19;clear HO_34;clear BK205;clear BK206;clear BK211;clear HO227;clear HB;clear HO_212001;clear HO_8;have HO_4:=n0_;have HO_9:=n1_;have HO_19:=n2_;have HO_34:=n3_;have BK205:=n4_;have BK206:=n5_;have BK211:=n6_;have HO227:=n7_;have HB:=n8_;have HO230:=n9_;clear n0_ n1_ n2_ n3_ n4_ n5_ n6_ n7_ n8_ n9_;clear ho hb hg hat;obtain ⟨Ao50,co50,eo50⟩:=Kd.N_slice HO230.out;subst eo50;have hcz51_0:w48.cell? ⟨gb211,0,none⟩ = some (.slice Ao42 y225.length co42):=(blk_cell BK211.out 0).trans rfl;have hcz51_1:w48.cell? ⟨gb211,1,none⟩ = some (u212001):=(blk_cell BK211.out 1).trans rfl;have hfz51_0:=blk_frozen BK211.out 0;have hfz51_1:=blk_frozen BK211.out 1))
               go_roundg k2
               case measure=>have:=HK1.out;have:=HK2.out;omega
               case rel=>exact ⟨(wrap64 (x21_1 + 1)),(y225),(y228),(.slice Ao42 y225.length co42),(.slice Ao50 y228.length co50),(by first | rfl | (simp;done) | (simp [*];done)),H',⟨by have:=HK1.out;have:=HK2.out;omega⟩,⟨by (with_reducible repeat (first | apply Kd.R_alloc | apply Kd.R_drewN | apply Kd.R_drew));exact Kd.R_mono (Kd.R_far (p:=⟨gb211,1,none⟩) (Kd.R_types HO_4.out BK211.out (by decide)) (fun _ hk=>hk.2) (.slice Ao50 y228.length co50)) (fun _ hk=>⟨hk.1.1,hk.1.2.2.2⟩)⟩,⟨by (with_reducible repeat (first | apply Kd.R_alloc | apply Kd.R_drewN | apply Kd.R_drew));exact Kd.R_mono (Kd.R_far (p:=⟨gb211,1,none⟩) (Kd.R_types HO_19.out BK211.out (by decide)) (fun _ hk=>hk.2) (.slice Ao50 y228.length co50)) (fun _ hk=>⟨hk.1.1,hk.1.2.2.2⟩)⟩,⟨by (with_reducible repeat (first | apply Kd.R_alloc | apply Kd.R_drewN | apply Kd.R_drew));exact Kd.R_mono (Kd.R_far (p:=⟨gb211,1,none⟩) (Kd.R_types HO227.out BK211.out (by decide)) (fun _ hk=>hk.2) (.slice Ao50 y228.length co50)) (fun _ hk=>⟨hk.1.1,⟨hk.1.2.1,hk.1.2.2.2.2.1⟩⟩)⟩,⟨by (with_reducible repeat (first | apply Kd.N_alloc | apply Kd.N_drewN | apply Kd.N_drew));exact Kd.N_mono (Kd.N_far (p:=⟨gb211,1,none⟩) (Kd.N_mono HO230.out (fun k_ hk=>(⟨hk,hk.2.2.2.2.2.2.2.2⟩:_∧k_ ≠ gb211))) (fun _ hk=>hk.2) (.slice Ao50 y228.length co50)) (fun _ hk=>⟨hk.1.1,⟨hk.1.2.1,⟨hk.1.2.2.2.1,⟨hk.1.2.2.2.2.2.1,⟨hk.1.2.2.2.2.2.2.1,⟨hk.1.2.2.2.2.2.2.2.1,hk.1.2.2.2.2.2.2.2.2⟩⟩⟩⟩⟩⟩)⟩,⟨by (with_reducible repeat (first | refine blk_drewN ?_ _ | refine blk_drew ?_ | refine blk_alloc ?_ _));refine blk_far ?_ NB205_211.out _;(with_reducible repeat (first | refine blk_drewN ?_ _ | refine blk_drew ?_ | refine blk_alloc ?_ _));exact BK205.out⟩,⟨by (with_reducible repeat (first | refine blk_drewN ?_ _ | refine blk_drew ?_ | refine blk_alloc ?_ _));refine blk_far ?_ NB206_211.out _;(with_reducible repeat (first | refine blk_drewN ?_ _ | refine blk_drew ?_ | refine blk_alloc ?_ _));exact BK206.out⟩,⟨by (with_reducible repeat (first | refine blk_drewN ?_ _ | refine blk_drew ?_ | refine blk_alloc ?_ _));refine blk_put (cs:=#[.slice Ao42 y225.length co42,u212001]) ?_ 1 _ rfl;(with_reducible repeat (first | refine blk_drewN ?_ _ | refine blk_drew ?_ | refine blk_alloc ?_ _));exact BK211.out⟩,⟨by repeat (with_reducible first | exact HB.out | apply below_alloc | apply pw_below_drewN | apply below_drew1 | refine below_set ?_ GE205.out | refine below_set ?_ GE206.out | refine below_set ?_ GE211.out)⟩⟩
              ·rw [if_neg c39] at H
               exact absurd H (by simp)
             ·rw [if_neg c38] at H
              exact absurd H (by simp)
            ·rw [if_neg c37] at H
             exact absurd H (by simp)
           ·rw [if_neg c36] at H
            exact absurd H (by simp)
       ·rw [if_neg c20] at H
        have c20b0:((rd t208 x21_1) == x21_1) = false:=beq_eq_false_iff_ne.mpr c20
        have c20b1:((rd t208 x21_1) != x21_1) = true:=bne_iff_ne.mpr c20
        have H':=Aside0.mk H
        clear H
        have p212:0 ≤ (x21_1:Int):=of_decide_eq_true (by assumption)
        have q212:x21_1 < (t208.length:Int):=of_decide_eq_true (by assumption)
        obtain ⟨ad212,e212,hx212_0⟩:=Kd.at_int (Kd.R_reads' HO_19.out).2.2 x21_1 p212 q212
        cases e212
        replace p212:=eq_true p212
        replace q212:=eq_true q212
        go_wp2
        go_roundg k1
        case measure=>have:=HK1.out;omega
        case rel=>exact ⟨(wrap64 (x21_1 + 1)),(x212000_1),(x212001_1),(u212000),(u212001),(by first | rfl | (simp;done) | (simp [*];done)),H',⟨by have:=HK1.out;omega⟩,⟨by exact HO_4.out⟩,⟨by exact HO_19.out⟩,⟨by exact HO_212000.out⟩,⟨by exact HO_212001.out⟩,⟨by exact BK205.out⟩,⟨by exact BK206.out⟩,⟨by exact BK211.out⟩,⟨by exact HB.out⟩⟩
      ·rw [if_neg c19] at H
       exact absurd H (by simp)
     ·rw [if_neg c18] at H
      exact absurd H (by simp)
    ·rw [if_neg c17] at H
     have c17b0:decide (x21_1 < (t208.length:Int)) = false:=decide_eq_false c17
     clear c17
     simp only [Option.some.injEq,Prod.mk.injEq] at H
     obtain ⟨rfl,rfl,rfl⟩:=H
     have hnb52:=NB211_205.out
     have hnc52:=NB205_211.out
     have hnb53:=NB211_206.out
     have hnc53:=NB206_211.out
     have hcz54_0:wr.cell? ⟨gb211,0,none⟩ = some (u212000):=(blk_cell BK211.out 0).trans rfl
     have hcz54_1:wr.cell? ⟨gb211,1,none⟩ = some (u212001):=(blk_cell BK211.out 1).trans rfl
     have hfz54_0:=blk_frozen BK211.out 0
     have hfz54_1:=blk_frozen BK211.out 1
     obtain ⟨Ao55,co55,eo55⟩:=Kd.R_slice HO_212000.out
     subst eo55
     have hnb56:=NB206_205.out
     have hnc56:=NB205_206.out
     have hcz57_0:wr.cell? ⟨gb206,0,none⟩ = some (.slice none 0 0):=(blk_cell BK206.out 0).trans rfl
     have hcz57_1:wr.cell? ⟨gb206,1,none⟩ = some (.slice none 0 0):=(blk_cell BK206.out 1).trans rfl
     have hfz57_0:=blk_frozen BK206.out 0
     have hfz57_1:=blk_frozen BK206.out 1
     obtain ⟨Ao58,co58,eo58⟩:=Kd.N_slice HO_212001.out
     subst eo58
     go_wp2
     refine bodyPost_ret (results_ct rfl _ _ gb206 28 #[.slice Ao55 x212000_1.length co55,.slice Ao58 x212001_1.length co58] (0,0) _ rfl (by refine blk_put (cs:=#[.slice Ao55 x212000_1.length co55,.slice none 0 0]) ?_ 1 _ rfl;refine blk_put (cs:=#[.slice none 0 0,.slice none 0 0]) ?_ 0 _ rfl;exact BK206.out) Try.underlying28 rfl (by kernel_rfl)) rfl ?_
     exact ⟨_,_,by first | rfl | (simp [errW_none,errW_some] <;> rfl) | (simp [*,errW_none,errW_some] <;> rfl),by (with_reducible repeat (first | apply Kd.R_alloc | apply Kd.R_drewN | apply Kd.R_drew));exact Kd.R_mono (Kd.R_far (p:=⟨gb206,1,none⟩) (Kd.R_far (p:=⟨gb206,0,none⟩) (Kd.R_types HO_212000.out BK206.out (by decide)) (fun _ hk=>hk.2) (.slice Ao55 x212000_1.length co55)) (fun _ hk=>hk.2) (.slice Ao58 x212001_1.length co58)) (fun _ hk=>hk.1.1),by (with_reducible repeat (first | apply Kd.N_alloc | apply Kd.N_drewN | apply Kd.N_drew));exact Kd.N_mono (Kd.N_far (p:=⟨gb206,1,none⟩) (Kd.N_far (p:=⟨gb206,0,none⟩) (Kd.N_mono HO_212001.out (fun k_ hk=>(⟨hk,hk.2.2.2.2.2.1⟩:_∧k_ ≠ gb206))) (fun _ hk=>hk.2) (.slice Ao55 x212000_1.length co55)) (fun _ hk=>hk.2) (.slice Ao58 x212001_1.length co58)) (fun _ hk=>⟨hk.1.1,hk.1.2.2.2.1⟩),by repeat (with_reducible first | exact HB.out | apply below_alloc | apply pw_below_drewN | apply below_drew1 | refine below_set ?_ GE205.out | refine below_set ?_ GE206.out | refine below_set ?_ GE211.out)⟩
 ·replace c3:=Bool.eq_false_iff.mpr c3
  subst c3
  have H1:(some (([]:List Int),([]:List (List Int)),false)) = some (r1,r2,r3):=by rw [if_neg (show ¬ (false = true) by decide)] at H;exact H
  clear H
  have H:=H1
  clear H1
  simp only [Option.some.injEq,Prod.mk.injEq] at H
  obtain ⟨rfl,rfl,rfl⟩:=H
  go_enter Try.func19,Try.ntmps19
  go_wp2_with (first | ((with_reducible refine gate_dst (N:=1) rfl ?_);refine box_event ?hg (N:=1) ?hd (cs:=#[.slice A0_0 l0_0.length c0_0,.slice A0_1 l0_1.length c0_1]) (t:=28) ?hr ?_;(case hd=>rfl);(case hg=>rfl);(case hr=>first | (go_simp;done) | (go_simp;rfl));intro gb205 hg w59 hbox hb;have n0_:=Aside0.mk (below_step (by repeat (with_reducible first | exact HB.out | apply below_alloc | apply pw_below_drewN | apply below_drew1)) hb);have n1_:=Aside0.mk (hbox);have n2_:=Aside0.mk ((by rw [hg];exact (below_size (by repeat (with_reducible first | exact HB.out | apply below_alloc | apply pw_below_drewN | apply below_drew1))):w.heap.size ≤ gb205));have n3_:=Aside0.mk ((by rw [hg];exact (below_size (by repeat (with_reducible first | exact HB.out | apply below_alloc | apply pw_below_drewN | apply below_drew1))):w.heap.size ≤ gb205));clear HB;have HB:=n0_;have BK205:=n1_;have GW205:=n2_;have GE205:=n3_;clear n0_ n1_ n2_ n3_;clear hb hbox hg) | ((with_reducible refine gate_dst (N:=2) rfl ?_);refine box_event ?hg (N:=2) ?hd (cs:=#[.slice none 0 0,.slice none 0 0]) (t:=28) ?hr ?_;(case hd=>rfl);(case hg=>rfl);(case hr=>first | (go_simp;done) | (go_simp;rfl));intro gb206 hg w60 hbox hb;have n0_:=Aside0.mk (blk_below (g:=gb205) (o:=.cells #[.slice A0_0 l0_0.length c0_0,.slice A0_1 l0_1.length c0_1] 28 (0,0)) (by (with_reducible repeat (first | refine blk_drewN ?_ _ | refine blk_drew ?_ | refine blk_alloc ?_ _));exact BK205.out) hb);have n1_:=Aside0.mk (below_step (by repeat (with_reducible first | exact HB.out | apply below_alloc | apply pw_below_drewN | apply below_drew1 | refine below_set ?_ GE205.out)) hb);have n2_:=Aside0.mk (hbox);have n3_:=Aside0.mk ((by rw [hg];exact (below_size (by repeat (with_reducible first | exact HB.out | apply below_alloc | apply pw_below_drewN | apply below_drew1 | refine below_set ?_ GE205.out))):w.heap.size ≤ gb206));have n4_:=Aside0.mk ((by rw [hg];exact (below_size (by repeat (with_reducible first | exact HB.out | apply below_alloc | apply pw_below_drewN | apply below_drew1 | refine below_set ?_ GE205.out))):w.heap.size ≤ gb206));have n5_:=Aside0.mk ((by rw [hg];exact Nat.ne_of_lt (blk_lt (g:=gb205) (o:=.cells #[.slice A0_0 l0_0.length c0_0,.slice A0_1 l0_1.length c0_1] 28 (0,0)) (by (with_reducible repeat (first | refine blk_drewN ?_ _ | refine blk_drew ?_ | refine blk_alloc ?_ _));exact BK205.out)):gb205 ≠ gb206));have n6_:=Aside0.mk ((by rw [hg];exact Nat.ne_of_gt (blk_lt (g:=gb205) (o:=.cells #[.slice A0_0 l0_0.length c0_0,.slice A0_1 l0_1.length c0_1] 28 (0,0)) (by (with_reducible repeat (first | refine blk_drewN ?_ _ | refine blk_drew ?_ | refine blk_alloc ?_ _));exact BK205.out)):gb206 ≠ gb205));clear BK205;clear HB;have BK205:=n0_;have HB:=n1_;have BK206:=n2_;have GW206:=n3_;have GE206:=n4_;have NB205_206:=n5_;have NB206_205:=n6_;clear n0_ n1_ n2_ n3_ n4_ n5_ n6_;clear hb hbox hg;have hnb61:=NB205_206.out;have hnc61:=NB206_205.out;have hcz62_0:w60.cell? ⟨gb205,0,none⟩ = some (.slice A0_0 l0_0.length c0_0):=(blk_cell BK205.out 0).trans rfl;have hcz62_1:w60.cell? ⟨gb205,1,none⟩ = some (.slice A0_1 l0_1.length c0_1):=(blk_cell BK205.out 1).trans rfl;have hfz62_0:=blk_frozen BK205.out 0;have hfz62_1:=blk_frozen BK205.out 1) | ((with_reducible refine gate_callee (f:=16) rfl ?_);refine goesL_ (some 13) rfl rfl Try.func16 (by kernel_rfl) rfl #[.agg #[.slice A0_0 l0_0.length c0_0,.slice A0_1 l0_1.length c0_1]] rfl (by (try simp only [List.map_toArray,List.map_cons,List.map_nil]);first | done | rfl | (simp only [List.length_drop,List.length_take];rfl)) ?_;(with_reducible refine (impl_ChancesOk.calls k _ _ l0_0 _ _ l0_1 false _ ?side1 ?side2 ?side3 ?side4 A2.out).mono ?_);(case side1=>repeat (first | exact (Kd.C_below HR0_0.out HB.out) | (with_reducible refine Kd.C_alloc ?_ _) | (with_reducible refine Kd.C_drewN ?_ _) | (with_reducible refine Kd.C_drew ?_)));(case side2=>exact HC0_0.out);(case side3=>repeat (first | exact (Kd.C_below HR0_1.out HB.out) | (with_reducible refine Kd.C_alloc ?_ _) | (with_reducible refine Kd.C_drewN ?_ _) | (with_reducible refine Kd.C_drew ?_)));(case side4=>exact HC0_1.out);rintro e w63 ⟨rfl,hb⟩;refine ⟨_,rfl,?_⟩;have n0_:=Aside0.mk (blk_below (g:=gb205) (o:=.cells #[.slice A0_0 l0_0.length c0_0,.slice A0_1 l0_1.length c0_1] 28 (0,0)) (by (with_reducible repeat (first | refine blk_drewN ?_ _ | refine blk_drew ?_ | refine blk_alloc ?_ _));exact BK205.out) hb);have n1_:=Aside0.mk (blk_below (g:=gb206) (o:=.cells #[.slice none 0 0,.slice none 0 0] 28 (0,0)) (by (with_reducible repeat (first | refine blk_drewN ?_ _ | refine blk_drew ?_ | refine blk_alloc ?_ _));exact BK206.out) hb);have n2_:=Aside0.mk (below_step (by repeat (with_reducible first | exact HB.out | apply below_alloc | apply pw_below_drewN | apply below_drew1 | refine below_set ?_ GE205.out | refine below_set ?_ GE206.out)) hb);clear BK205;clear BK206;clear HB;have BK205:=n0_;have BK206:=n1_;have HB:=n2_;clear n0_ n1_ n2_;(try clear hb);(try clear hb2);(try clear hk);(try clear hi);have hcz64_0:w63.cell? ⟨gb206,0,none⟩ = some (.slice none 0 0):=(blk_cell BK206.out 0).trans rfl;have hcz64_1:w63.cell? ⟨gb206,1,none⟩ = some (.slice none 0 0):=(blk_cell BK206.out 1).trans rfl;have hfz64_0:=blk_frozen BK206.out 0;have hfz64_1:=blk_frozen BK206.out 1))
  refine bodyPost_ret (results_ct rfl _ _ gb206 28 #[.slice none 0 0,.slice none 0 0] (0,0) _ rfl (by (with_reducible repeat (first | refine blk_drewN ?_ _ | refine blk_drew ?_ | refine blk_alloc ?_ _));refine blk_put (cs:=#[.slice none 0 0,.slice none 0 0]) ?_ 1 _ rfl;(with_reducible repeat (first | refine blk_drewN ?_ _ | refine blk_drew ?_ | refine blk_alloc ?_ _));refine blk_put (cs:=#[.slice none 0 0,.slice none 0 0]) ?_ 0 _ rfl;(with_reducible repeat (first | refine blk_drewN ?_ _ | refine blk_drew ?_ | refine blk_alloc ?_ _));exact BK206.out) Try.underlying28 rfl (by kernel_rfl)) rfl ?_
  exact ⟨_,_,by first | rfl | (simp [errW_none,errW_some] <;> rfl) | (simp [*,errW_none,errW_some] <;> rfl),by first | exact Kd.R_nil _ _ _ _ _ | exact Kd.N_nil _ _ _ _ _ | exact Kd.V_nil _ _ _ _ _ | exact Kd.Q_nil _ _ _ _ _ | exact Kd.S_nil _ _ _ _ _,by first | exact Kd.S_nil _ _ _ _ _ | exact Kd.N_nil _ _ _ _ _ | exact Kd.V_nil _ _ _ _ _ | exact Kd.Q_nil _ _ _ _ _ | exact Kd.R_nil _ _ _ _ _,by repeat (with_reducible first | exact HB.out | apply below_alloc | apply pw_below_drewN | apply below_drew1 | refine below_set ?_ GE205.out | refine below_set ?_ GE206.out)⟩
def spec_DrawChancesMark.f (k:Nat) (l0:List Int):Option (List Int × (List (List Int)) × Int × Int × Int):=(spec_l6Open.f l0).bind fun bt521=>((spec_l92Chances.f k bt521.1 bt521.2).bind fun bt524=>((spec_l6Rd_pick.f k bt521.1 bt524.2.2 (wrap64 ((bt524.1.length:Int) + 1))).bind fun bt532=>((spec_l92Steps.f k bt521.1 bt532.2).bind fun bt534=>((some (([0,1,0,1,9,10]:List Int):List Int)).bind fun y536=>((spec_l6Rd_pick.f k bt521.1 bt534.2 6).bind fun bt539=>(if 0 ≤ bt539.1 then (if bt539.1 < (y536.length:Int) then (some (bt524.1,bt524.2.1,bt532.1,bt534.1,rd y536 bt539.1)) else (none)) else (none)))))))
theorem spec_DrawChancesMark.mono:∀ a0 k,LeO (spec_DrawChancesMark.f k a0) (spec_DrawChancesMark.f (k + 1) a0):=by
 intro a0 k
 unfold spec_DrawChancesMark.f
 repeat' first
   | (with_reducible exact spec_l6Rd_pick.mono _ _ _ _)
   | (with_reducible exact spec_l92Chances.mono _ _ _)
   | (with_reducible exact spec_l92Steps.mono _ _ _)
   | (with_reducible exact LeO.refl _)
   | (with_reducible exact LeO.none _)
   | (with_reducible refine LeO.ite ?_ ?_)
   | (with_reducible refine LeO.bind ?_ (fun _=>?_))
   | exact spec_l6Rd_pick.mono _ _ _ _
   | exact spec_l92Chances.mono _ _ _
   | exact spec_l92Steps.mono _ _ _
   | exact LeO.none _
   | refine LeO.ite ?_ ?_
   | refine LeO.bind ?_ (fun _=>?_)
set_option maxHeartbeats 8000000 in
set_option maxRecDepth 100000 in
theorem spec_DrawChancesMark.calls (k:Nat) (A0:Option Addr) (c0:Nat) (l0:List Int) (r1:List Int) (r2:List (List Int)) (r3:Int) (r4:Int) (r5:Int) (w:World) (hr0:Kd.C (Kd.int .u8) w A0 l0.length l0) (hc0:l0.length ≤ c0) (h:spec_DrawChancesMark.f k l0 = some (r1,r2,r3,r4,r5)) :
  Calls Try.prog 33 #[.slice A0 l0.length c0] w fun e w'=>∃ v0_ v1_:Value,e = .returned (.tuple #[.agg #[v0_,v1_],.int .i64 r3,.int .i64 r4,.int .i64 r5])∧Kd.R (Kd.int .i64) 3 w' w.heap.size (fun k_=>(w.heap.size ≤ k_)) v0_ r1∧Kd.N (Kd.slice 3 (Kd.int .i64)) 22 w' w.heap.size (fun k_=>(w.heap.size ≤ k_)∧some k_ ≠ (v0_:Value).ownBlock) v1_ r2∧Below w.heap.size w w':=by
 have hu28:=Try.underlying28
 have HR0:=Aside0.mk hr0
 have HC0:=Aside0.mk hc0
 clear hr0 hc0
 have HB:=Aside0.mk (Below.refl w.heap.size w)
 have H:((spec_l6Open.f l0).bind fun bt521=>((spec_l92Chances.f k bt521.1 bt521.2).bind fun bt524=>((spec_l6Rd_pick.f k bt521.1 bt524.2.2 (wrap64 ((bt524.1.length:Int) + 1))).bind fun bt532=>((spec_l92Steps.f k bt521.1 bt532.2).bind fun bt534=>((some (([0,1,0,1,9,10]:List Int):List Int)).bind fun y536=>((spec_l6Rd_pick.f k bt521.1 bt534.2 6).bind fun bt539=>(if 0 ≤ bt539.1 then (if bt539.1 < (y536.length:Int) then (some (bt524.1,bt524.2.1,bt532.1,bt534.1,rd y536 bt539.1)) else (none)) else (none)))))))) = some (r1,r2,r3,r4,r5):=h
 clear h
 replace H:=Option.bind_eq_some_iff.mp H
 obtain ⟨⟨t521,t522⟩,A20,H⟩:=H
 replace H:((spec_l92Chances.f k t521 t522).bind fun bt524=>((spec_l6Rd_pick.f k t521 bt524.2.2 (wrap64 ((bt524.1.length:Int) + 1))).bind fun bt532=>((spec_l92Steps.f k t521 bt532.2).bind fun bt534=>((some (([0,1,0,1,9,10]:List Int):List Int)).bind fun y536=>((spec_l6Rd_pick.f k t521 bt534.2 6).bind fun bt539=>(if 0 ≤ bt539.1 then (if bt539.1 < (y536.length:Int) then (some (bt524.1,bt524.2.1,bt532.1,bt534.1,rd y536 bt539.1)) else (none)) else (none))))))) = some (r1,r2,r3,r4,r5):=H
 have A2:=Aside0.mk A20
 clear A20
 replace H:=Option.bind_eq_some_iff.mp H
 obtain ⟨⟨t524,t527,t530⟩,A30,H⟩:=H
 replace H:((spec_l6Rd_pick.f k t521 t530 (wrap64 ((t524.length:Int) + 1))).bind fun bt532=>((spec_l92Steps.f k t521 bt532.2).bind fun bt534=>((some (([0,1,0,1,9,10]:List Int):List Int)).bind fun y536=>((spec_l6Rd_pick.f k t521 bt534.2 6).bind fun bt539=>(if 0 ≤ bt539.1 then (if bt539.1 < (y536.length:Int) then (some (t524,t527,bt532.1,bt534.1,rd y536 bt539.1)) else (none)) else (none)))))) = some (r1,r2,r3,r4,r5):=H
 have A3:=Aside0.mk A30
 clear A30
 replace H:=Option.bind_eq_some_iff.mp H
 obtain ⟨⟨t532,t533⟩,A40,H⟩:=H
 replace H:((spec_l92Steps.f k t521 t533).bind fun bt534=>((some (([0,1,0,1,9,10]:List Int):List Int)).bind fun y536=>((spec_l6Rd_pick.f k t521 bt534.2 6).bind fun bt539=>(if 0 ≤ bt539.1 then (if bt539.1 < (y536.length:Int) then (some (t524,t527,t532,bt534.1,rd y536 bt539.1)) else (none)) else (none))))) = some (r1,r2,r3,r4,r5):=H
 have A4:=Aside0.mk A40
 clear A40
 replace H:=Option.bind_eq_some_iff.mp H
 obtain ⟨⟨t534,t535⟩,A50,H⟩:=H
 replace H:((some (([0,1,0,1,9,10]:List Int):List Int)).bind fun y536=>((spec_l6Rd_pick.f k t521 t535 6).bind fun bt539=>(if 0 ≤ bt539.1 then (if bt539.1 < (y536.length:Int) then (some (t524,t527,t532,t534,rd y536 bt539.1)) else (none)) else (none)))) = some (r1,r2,r3,r4,r5):=H
 have A5:=Aside0.mk A50
 clear A50
 obtain ⟨y536,hy536⟩:∃ y_:List Int,y_ = (([0,1,0,1,9,10]:List Int)):=⟨_,rfl⟩
 replace H:((spec_l6Rd_pick.f k t521 t535 6).bind fun bt539=>(if 0 ≤ bt539.1 then (if bt539.1 < (y536.length:Int) then (some (t524,t527,t532,t534,rd y536 bt539.1)) else (none)) else (none))) = some (r1,r2,r3,r4,r5):=by rw [hy536];exact H
 have Ny536:=Aside0.mk hy536
 clear hy536
 replace H:=Option.bind_eq_some_iff.mp H
 obtain ⟨⟨t539,t540⟩,A60,H⟩:=H
 replace H:(if 0 ≤ t539 then (if t539 < (y536.length:Int) then (some (t524,t527,t532,t534,rd y536 t539)) else (none)) else (none)) = some (r1,r2,r3,r4,r5):=H
 have A6:=Aside0.mk A60
 clear A60
 by_cases c7:0 ≤ t539
 ·rw [if_pos c7] at H
  have c7b0:decide (0 ≤ t539) = true:=decide_eq_true c7
  clear c7
  by_cases c8:t539 < (y536.length:Int)
  ·rw [if_pos c8] at H
   have c8b0:decide (t539 < (y536.length:Int)) = true:=decide_eq_true c8
   clear c8
   simp only [Option.some.injEq,Prod.mk.injEq] at H
   obtain ⟨rfl,rfl,rfl,rfl,rfl⟩:=H
   go_enter Try.func33,Try.ntmps33
   go_wp2_with (first | ((with_reducible refine gate_dst (N:=2) rfl ?_);refine box_event ?hg (N:=2) ?hd (cs:=#[.slice none 0 0,.slice none 0 0]) (t:=28) ?hr ?_;(case hd=>rfl);(case hg=>rfl);(case hr=>first | (go_simp;done) | (go_simp;rfl));intro gb520 hg w9 hbox hb;have n0_:=Aside0.mk (below_step (by repeat (with_reducible first | exact HB.out | apply below_alloc | apply pw_below_drewN | apply below_drew1)) hb);have n1_:=Aside0.mk (hbox);have n2_:=Aside0.mk ((by rw [hg];exact (below_size (by repeat (with_reducible first | exact HB.out | apply below_alloc | apply pw_below_drewN | apply below_drew1))):w.heap.size ≤ gb520));have n3_:=Aside0.mk ((by rw [hg];exact (below_size (by repeat (with_reducible first | exact HB.out | apply below_alloc | apply pw_below_drewN | apply below_drew1))):w.heap.size ≤ gb520));clear HB;have HB:=n0_;have BK520:=n1_;have GW520:=n2_;have GE520:=n3_;clear n0_ n1_ n2_ n3_;clear hb hbox hg) | ((with_reducible refine gate_callee (f:=44) rfl ?_);refine goesL_ (some 12) rfl rfl Try.func44 (by kernel_rfl) rfl #[.slice A0 l0.length c0] rfl (by (try simp only [List.map_toArray,List.map_cons,List.map_nil]);first | done | rfl | (simp only [List.length_drop,List.length_take];rfl)) ?_;(with_reducible refine (spec_l6Open.calls _ _ l0 t521 t522 w _ ?side1 ?side2 ?side3 A2.out).mono ?_);(case side1=>repeat (with_reducible first | exact HB.out | apply below_alloc | apply pw_below_drewN | apply below_drew1 | refine below_set ?_ GE520.out));(case side2=>exact HR0.out);(case side3=>exact HC0.out);rintro e w10 ⟨g523,rfl,hi,hb,hb2⟩;refine ⟨_,rfl,?_⟩;have n0_:=Aside0.mk (blk_below (g:=gb520) (o:=.cells #[.slice none 0 0,.slice none 0 0] 28 (0,0)) (by (with_reducible repeat (first | refine blk_drewN ?_ _ | refine blk_drew ?_ | refine blk_alloc ?_ _));exact BK520.out) hb2);have n1_:=Aside0.mk (hb);have n2_:=Aside0.mk (hi);have n3_:=Aside0.mk (IsS67.ne_blk hi (blk_below (g:=gb520) (o:=.cells #[.slice none 0 0,.slice none 0 0] 28 (0,0)) (by (with_reducible repeat (first | refine blk_drewN ?_ _ | refine blk_drew ?_ | refine blk_alloc ?_ _));exact BK520.out) hb2) (by decide));have n4_:=Aside0.mk (Ne.symm (IsS67.ne_blk hi (blk_below (g:=gb520) (o:=.cells #[.slice none 0 0,.slice none 0 0] 28 (0,0)) (by (with_reducible repeat (first | refine blk_drewN ?_ _ | refine blk_drew ?_ | refine blk_alloc ?_ _));exact BK520.out) hb2) (by decide)));clear BK520;clear HB;have BK520:=n0_;have HB:=n1_;have HI523:=n2_;have NB523_520:=n3_;have NB520_523:=n4_;clear n0_ n1_ n2_ n3_ n4_;(try clear hb);(try clear hb2);(try clear hk);(try clear hi)) | ((with_reducible refine gate_callee (f:=45) rfl ?_);refine goesL_ (some 14) rfl rfl Try.func45 (by kernel_rfl) rfl #[.pointer (some ⟨g523,0,none⟩)] rfl (by (try simp only [List.map_toArray,List.map_cons,List.map_nil]);first | done | rfl | (simp only [List.length_drop,List.length_take];rfl)) ?_;(with_reducible refine (spec_l92Chances.calls k g523 t521 t522 t524 t527 t530 w _ ?side1 ?side2 A3.out).mono ?_);(case side1=>repeat (with_reducible first | exact HI523.out | apply IsS67.alloc | apply IsS67.drewN | apply IsS67.drew | apply IsS67.set_1 | refine IsS67.far ?_ NB523_520.out _));(case side2=>repeat (with_reducible first | exact HB.out | apply below_alloc | apply pw_below_drewN | apply below_drew1 | refine below_set ?_ (IsS67.ge HI523.out) | refine below_set ?_ GE520.out));rintro e w11 ⟨v525,v528,rfl,ho0,ho1,hi,hb,hk⟩;refine ⟨_,rfl,?_⟩;have n0_:=Aside0.mk (KeepBut.blk hk (g':=gb520) (o:=.cells #[.slice none 0 0,.slice none 0 0] 28 (0,0)) (by (with_reducible repeat (first | refine blk_drewN ?_ _ | refine blk_drew ?_ | refine blk_alloc ?_ _));exact BK520.out) NB520_523.out (by simp));have n1_:=Aside0.mk (Kd.R_lower (Kd.R_newM (M:=fun k_=>(w.heap.size ≤ k_)) (Kd.R_mono (ok':=fun k_=>True) ho0 (fun _ hk_=>trivial)) (below_size (by repeat (with_reducible first | exact HB.out | apply below_alloc | apply pw_below_drewN | apply below_drew1 | refine below_set ?_ (IsS67.ge HI523.out) | refine below_set ?_ GE520.out))) (fun k_ h_=>h_)) (below_size (by repeat (with_reducible first | exact HB.out | apply below_alloc | apply pw_below_drewN | apply below_drew1 | refine below_set ?_ (IsS67.ge HI523.out) | refine below_set ?_ GE520.out))));have n2_:=Aside0.mk (Kd.N_lower (Kd.N_mono (ok':=fun k_=>(w.heap.size ≤ k_)∧some k_ ≠ (v525:Value).ownBlock∧k_ ≠ gb520∧k_ ≠ g523) ho1 (fun k_ hk_=>⟨(Nat.le_trans (below_size (by repeat (with_reducible first | exact HB.out | apply below_alloc | apply pw_below_drewN | apply below_drew1 | refine below_set ?_ (IsS67.ge HI523.out) | refine below_set ?_ GE520.out))) hk_.1),hk_.2,(Kd.freshB (g:=gb520) (o:=.cells #[.slice none 0 0,.slice none 0 0] 28 (0,0)) (by (with_reducible repeat (first | refine blk_drewN ?_ _ | refine blk_drew ?_ | refine blk_alloc ?_ _));exact BK520.out) k_ hk_.1),(IsS67.fresh (by repeat (with_reducible first | exact HI523.out | apply IsS67.alloc | apply IsS67.drewN | apply IsS67.drew | apply IsS67.set_1 | refine IsS67.far ?_ NB523_520.out _)) k_ hk_.1)⟩)) (below_size (by repeat (with_reducible first | exact HB.out | apply below_alloc | apply pw_below_drewN | apply below_drew1 | refine below_set ?_ (IsS67.ge HI523.out) | refine below_set ?_ GE520.out))));have n3_:=Aside0.mk (hb);have n4_:=Aside0.mk (hi);clear BK520;clear HB;clear HI523;have BK520:=n0_;have HO526:=n1_;have HO529:=n2_;have HB:=n3_;have HI523:=n4_;clear n0_ n1_ n2_ n3_ n4_;(try clear hb);(try clear hb2);(try clear hk);(try clear hi);(try clear ho0);(try clear ho1)) | ((with_reducible refine gate_dst (N:=7) rfl ?_);refine box_event ?hg (N:=7) ?hd (cs:=#[.slice none 0 0,.slice none 0 0]) (t:=28) ?hr ?_;(case hd=>rfl);(case hg=>rfl);(case hr=>first | (go_simp;done) | (go_simp;rfl));intro gb531 hg w12 hbox hb;have n0_:=Aside0.mk (Kd.R_below (by (with_reducible repeat (first | apply Kd.R_alloc | apply Kd.R_drewN | apply Kd.R_drew));exact HO526.out) hb);have n1_:=Aside0.mk (Kd.N_below (Kd.N_elderB (by (with_reducible repeat (first | apply Kd.N_alloc | apply Kd.N_drewN | apply Kd.N_drew));exact HO529.out) gb531 (Nat.le_of_eq hg.symm)) hb);have n2_:=Aside0.mk (blk_below (g:=gb520) (o:=.cells #[.slice none 0 0,.slice none 0 0] 28 (0,0)) (by (with_reducible repeat (first | refine blk_drewN ?_ _ | refine blk_drew ?_ | refine blk_alloc ?_ _));exact BK520.out) hb);have n3_:=Aside0.mk (IsS67.below (by repeat (with_reducible first | exact HI523.out | apply IsS67.alloc | apply IsS67.drewN | apply IsS67.drew | apply IsS67.set_1 | refine IsS67.far ?_ NB523_520.out _)) hb);have n4_:=Aside0.mk (below_step (by repeat (with_reducible first | exact HB.out | apply below_alloc | apply pw_below_drewN | apply below_drew1 | refine below_set ?_ (IsS67.ge HI523.out) | refine below_set ?_ GE520.out)) hb);have n5_:=Aside0.mk (hbox);have n6_:=Aside0.mk ((by rw [hg];exact (below_size (by repeat (with_reducible first | exact HB.out | apply below_alloc | apply pw_below_drewN | apply below_drew1 | refine below_set ?_ (IsS67.ge HI523.out) | refine below_set ?_ GE520.out))):w.heap.size ≤ gb531));have n7_:=Aside0.mk ((by rw [hg];exact (below_size (by repeat (with_reducible first | exact HB.out | apply below_alloc | apply pw_below_drewN | apply below_drew1 | refine below_set ?_ (IsS67.ge HI523.out) | refine below_set ?_ GE520.out))):w.heap.size ≤ gb531));have n8_:=Aside0.mk ((by rw [hg];exact Nat.ne_of_lt (blk_lt (g:=gb520) (o:=.cells #[.slice none 0 0,.slice none 0 0] 28 (0,0)) (by (with_reducible repeat (first | refine blk_drewN ?_ _ | refine blk_drew ?_ | refine blk_alloc ?_ _));exact BK520.out)):gb520 ≠ gb531));have n9_:=Aside0.mk ((by rw [hg];exact Nat.ne_of_gt (blk_lt (g:=gb520) (o:=.cells #[.slice none 0 0,.slice none 0 0] 28 (0,0)) (by (with_reducible repeat (first | refine blk_drewN ?_ _ | refine blk_drew ?_ | refine blk_alloc ?_ _));exact BK520.out)):gb531 ≠ gb520));have n10_:=Aside0.mk ((by rw [hg];exact Nat.ne_of_lt (IsS67.lt (show IsS67 w _ g523 t521 t530 from by repeat (with_reducible first | exact HI523.out | apply IsS67.alloc | apply IsS67.drewN | apply IsS67.drew | apply IsS67.set_1 | refine IsS67.far ?_ NB523_520.out _))):g523 ≠ gb531));have n11_:=Aside0.mk ((by rw [hg];exact Nat.ne_of_gt (IsS67.lt (show IsS67 w _ g523 t521 t530 from by repeat (with_reducible first | exact HI523.out | apply IsS67.alloc | apply IsS67.drewN | apply IsS67.drew | apply IsS67.set_1 | refine IsS67.far ?_ NB523_520.out _))):gb531 ≠ g523));clear HO526;clear HO529;clear BK520;clear HI523;clear HB;have HO526:=n0_;have HO529:=n1_;have BK520:=n2_;have HI523:=n3_;have HB:=n4_;have BK531:=n5_;have GW531:=n6_;have GE531:=n7_;have NB520_531:=n8_;have NB531_520:=n9_;have NB523_531:=n10_;have NB531_523:=n11_;clear n0_ n1_ n2_ n3_ n4_ n5_ n6_ n7_ n8_ n9_ n10_ n11_;clear hb hbox hg;obtain ⟨Ao13,co13,eo13⟩:=Kd.R_slice HO526.out;subst eo13;have hnb14:=NB531_520.out;have hnc14:=NB520_531.out;have hnb15:=NB531_523.out;have hnc15:=NB523_531.out;have hcz16_0:w12.cell? ⟨gb531,0,none⟩ = some (.slice none 0 0):=(blk_cell BK531.out 0).trans rfl;have hcz16_1:w12.cell? ⟨gb531,1,none⟩ = some (.slice none 0 0):=(blk_cell BK531.out 1).trans rfl;have hfz16_0:=blk_frozen BK531.out 0;have hfz16_1:=blk_frozen BK531.out 1;obtain ⟨Ao17,co17,eo17⟩:=Kd.N_slice HO529.out;subst eo17) | ((with_reducible refine gate_callee (f:=48) rfl ?_);refine goesL_ (some 20) rfl rfl Try.func48 (by kernel_rfl) rfl #[.pointer (some ⟨g523,0,none⟩),.int .i64 (wrap64 ((t524.length:Int) + 1))] rfl (by (try simp only [List.map_toArray,List.map_cons,List.map_nil]);first | done | rfl | (simp only [List.length_drop,List.length_take];rfl)) ?_;(with_reducible refine (spec_l6Rd_pick.calls k g523 t521 t530 (wrap64 ((t524.length:Int) + 1)) t532 t533 w _ ?side1 ?side2 A4.out).mono ?_);(case side1=>repeat (with_reducible first | exact HI523.out | apply IsS67.alloc | apply IsS67.drewN | apply IsS67.drew | apply IsS67.set_1 | refine IsS67.far ?_ NB523_520.out _ | refine IsS67.far ?_ NB523_531.out _));(case side2=>repeat (with_reducible first | exact HB.out | apply below_alloc | apply pw_below_drewN | apply below_drew1 | refine below_set ?_ (IsS67.ge HI523.out) | refine below_set ?_ GE520.out | refine below_set ?_ GE531.out));rintro e w18 ⟨rfl,hi,hb,hk⟩;refine ⟨_,rfl,?_⟩;have n0_:=Aside0.mk (KeepBut.blk hk (g':=gb520) (o:=.cells #[.slice none 0 0,.slice none 0 0] 28 (0,0)) (by (with_reducible repeat (first | refine blk_drewN ?_ _ | refine blk_drew ?_ | refine blk_alloc ?_ _));refine blk_far ?_ NB520_531.out _;(with_reducible repeat (first | refine blk_drewN ?_ _ | refine blk_drew ?_ | refine blk_alloc ?_ _));refine blk_far ?_ NB520_531.out _;(with_reducible repeat (first | refine blk_drewN ?_ _ | refine blk_drew ?_ | refine blk_alloc ?_ _));exact BK520.out) NB520_523.out (by simp));have n1_:=Aside0.mk (Kd.R_mono (Kd.R_keep (IsS67.apart (show IsS67 w _ g523 t521 t530 from by repeat (with_reducible first | exact HI523.out | apply IsS67.alloc | apply IsS67.drewN | apply IsS67.drew | apply IsS67.set_1 | refine IsS67.far ?_ NB523_520.out _ | refine IsS67.far ?_ NB523_531.out _)) (by (with_reducible repeat (first | apply Kd.R_alloc | apply Kd.R_drewN | apply Kd.R_drew));exact (Kd.R_mono (Kd.R_far (p:=⟨gb531,1,none⟩) (Kd.R_far (p:=⟨gb531,0,none⟩) (Kd.R_types HO526.out BK531.out (by decide)) (fun _ hk=>hk.2) (.slice Ao13 t524.length co13)) (fun _ hk=>hk.2) (.slice Ao17 t527.length co17)) (fun _ h_=>h_.1))) (by decide)) hk (fun _ h=>h.2)) (fun _ h=>h.1));have n2_:=Aside0.mk (Kd.N_mono (Kd.N_keep (Kd.N_mono (ok:=fun k_=>((((w.heap.size ≤ k_))∧(some k_ ≠ (.slice Ao13 t524.length co13:Value).ownBlock∧(k_ ≠ gb520∧k_ ≠ g523)))∧k_ ≠ gb531)) (by (with_reducible repeat (first | apply Kd.N_alloc | apply Kd.N_drewN | apply Kd.N_drew));exact (Kd.N_mono (Kd.N_far (p:=⟨gb531,1,none⟩) (Kd.N_far (p:=⟨gb531,0,none⟩) (Kd.N_mono HO529.out (fun k_ hk=>(⟨hk,hk.2⟩:_∧k_ ≠ gb531))) (fun _ hk=>hk.2) (.slice Ao13 t524.length co13)) (fun _ hk=>hk.2) (.slice Ao17 t527.length co17)) (fun _ h_=>h_.1))) (fun k_ hk_=>(⟨hk_,hk_.1.2.2.2⟩:_∧k_ ≠ g523))) hk (fun _ h=>h.2)) (fun _ h=>h.1));have n3_:=Aside0.mk (KeepBut.blk hk (g':=gb531) (o:=.cells #[.slice Ao13 t524.length co13,.slice Ao17 t527.length co17] 28 (0,0)) (by (with_reducible repeat (first | refine blk_drewN ?_ _ | refine blk_drew ?_ | refine blk_alloc ?_ _));refine blk_put (cs:=#[.slice Ao13 t524.length co13,.slice none 0 0]) ?_ 1 _ rfl;(with_reducible repeat (first | refine blk_drewN ?_ _ | refine blk_drew ?_ | refine blk_alloc ?_ _));refine blk_put (cs:=#[.slice none 0 0,.slice none 0 0]) ?_ 0 _ rfl;(with_reducible repeat (first | refine blk_drewN ?_ _ | refine blk_drew ?_ | refine blk_alloc ?_ _));exact BK531.out) NB531_523.out (by simp));have n4_:=Aside0.mk (hb);have n5_:=Aside0.mk (hi);clear BK520;clear HO526;clear HO529;clear BK531;clear HB;clear HI523;have BK520:=n0_;have HO526:=n1_;have HO529:=n2_;have BK531:=n3_;have HB:=n4_;have HI523:=n5_;clear n0_ n1_ n2_ n3_ n4_ n5_;(try clear hb);(try clear hb2);(try clear hk);(try clear hi)) | ((with_reducible refine gate_callee (f:=49) rfl ?_);refine goesL_ (some 22) rfl rfl Try.func49 (by kernel_rfl) rfl #[.pointer (some ⟨g523,0,none⟩)] rfl (by (try simp only [List.map_toArray,List.map_cons,List.map_nil]);first | done | rfl | (simp only [List.length_drop,List.length_take];rfl)) ?_;(with_reducible refine (spec_l92Steps.calls k g523 t521 t533 t534 t535 w _ ?side1 ?side2 A5.out).mono ?_);(case side1=>repeat (with_reducible first | exact HI523.out | apply IsS67.alloc | apply IsS67.drewN | apply IsS67.drew | apply IsS67.set_1 | refine IsS67.far ?_ NB523_520.out _ | refine IsS67.far ?_ NB523_531.out _));(case side2=>repeat (with_reducible first | exact HB.out | apply below_alloc | apply pw_below_drewN | apply below_drew1 | refine below_set ?_ (IsS67.ge HI523.out) | refine below_set ?_ GE520.out | refine below_set ?_ GE531.out));rintro e w19 ⟨rfl,hi,hb,hk⟩;refine ⟨_,rfl,?_⟩;have n0_:=Aside0.mk (KeepBut.blk hk (g':=gb520) (o:=.cells #[.slice none 0 0,.slice none 0 0] 28 (0,0)) (by (with_reducible repeat (first | refine blk_drewN ?_ _ | refine blk_drew ?_ | refine blk_alloc ?_ _));exact BK520.out) NB520_523.out (by simp));have n1_:=Aside0.mk (Kd.R_mono (Kd.R_keep (IsS67.apart (show IsS67 w _ g523 t521 t533 from by repeat (with_reducible first | exact HI523.out | apply IsS67.alloc | apply IsS67.drewN | apply IsS67.drew | apply IsS67.set_1 | refine IsS67.far ?_ NB523_520.out _ | refine IsS67.far ?_ NB523_531.out _)) (by (with_reducible repeat (first | apply Kd.R_alloc | apply Kd.R_drewN | apply Kd.R_drew));exact HO526.out) (by decide)) hk (fun _ h=>h.2)) (fun _ h=>h.1));have n2_:=Aside0.mk (Kd.N_mono (Kd.N_keep (Kd.N_mono (ok:=fun k_=>((((w.heap.size ≤ k_))∧(some k_ ≠ (.slice Ao13 t524.length co13:Value).ownBlock∧(k_ ≠ gb520∧k_ ≠ g523)))∧k_ ≠ gb531)) (by (with_reducible repeat (first | apply Kd.N_alloc | apply Kd.N_drewN | apply Kd.N_drew));exact HO529.out) (fun k_ hk_=>(⟨hk_,hk_.1.2.2.2⟩:_∧k_ ≠ g523))) hk (fun _ h=>h.2)) (fun _ h=>h.1));have n3_:=Aside0.mk (KeepBut.blk hk (g':=gb531) (o:=.cells #[.slice Ao13 t524.length co13,.slice Ao17 t527.length co17] 28 (0,0)) (by (with_reducible repeat (first | refine blk_drewN ?_ _ | refine blk_drew ?_ | refine blk_alloc ?_ _));exact BK531.out) NB531_523.out (by simp));have n4_:=Aside0.mk (hb);have n5_:=Aside0.mk (hi);clear BK520;clear HO526;clear HO529;clear BK531;clear HB;clear HI523;have BK520:=n0_;have HO526:=n1_;have HO529:=n2_;have BK531:=n3_;have HB:=n4_;have HI523:=n5_;clear n0_ n1_ n2_ n3_ n4_ n5_;(try clear hb);(try clear hb2);(try clear hk);(try clear hi)) | ((with_reducible refine gate_dst (N:=23) rfl ?_);refine Kd.R_lit (Kd.int .i64) _ 3 ?hg (N:=23) ?hd (xs:=([0,1,0,1,9,10]:List Int)) (inner:=[.int .i64 0,.int .i64 1,.int .i64 0,.int .i64 1,.int .i64 9,.int .i64 10]) (ok:=fun _=>True) (okp:=fun _=>True) ?hr ?hp (fun _ hk=>hk) trivial (Below.refl _ _) (Nat.le_refl _) (by simp) ?_;(case hd=>rfl);(case hg=>rfl);(case hr=>first | (go_simp;done) | (go_simp;rfl));(case hp=>exact (Reps.one (show Kd.M (Kd.int .i64) _ _ _ 0 [.int .i64 0] from rfl) (Reps.one (show Kd.M (Kd.int .i64) _ _ _ 1 [.int .i64 1] from rfl) (Reps.one (show Kd.M (Kd.int .i64) _ _ _ 0 [.int .i64 0] from rfl) (Reps.one (show Kd.M (Kd.int .i64) _ _ _ 1 [.int .i64 1] from rfl) (Reps.one (show Kd.M (Kd.int .i64) _ _ _ 9 [.int .i64 9] from rfl) (Reps.one (show Kd.M (Kd.int .i64) _ _ _ 10 [.int .i64 10] from rfl) (Reps.none _ _))))))));intro v537 w20 ho21 hb hg_ hnew_;clear hg_ hnew_;(first | rw [← Ny536.out] at ho21 | (simp only [Int.reduceToNat] at ho21;rw [← Ny536.out] at ho21));have n0_:=Aside0.mk (Kd.R_elder' (by (with_reducible repeat (first | apply Kd.R_alloc | apply Kd.R_drewN | apply Kd.R_drew));exact HO526.out) (Kd.R_base ho21) hb);have n1_:=Aside0.mk (Kd.N_elder' (by (with_reducible repeat (first | apply Kd.N_alloc | apply Kd.N_drewN | apply Kd.N_drew));exact HO529.out) (Kd.R_base ho21) hb);have n2_:=Aside0.mk (Kd.R_lower (Kd.R_new' (Kd.R_newM (M:=fun k_=>(w.heap.size ≤ k_)) ho21 (below_size (by repeat (with_reducible first | exact HB.out | apply below_alloc | apply pw_below_drewN | apply below_drew1 | refine below_set ?_ (IsS67.ge HI523.out) | refine below_set ?_ GE520.out | refine below_set ?_ GE531.out))) (fun k_ h_=>h_)) (Kd.R_lt (by (with_reducible repeat (first | apply Kd.R_alloc | apply Kd.R_drewN | apply Kd.R_drew));exact HO526.out))) (below_size (by repeat (with_reducible first | exact HB.out | apply below_alloc | apply pw_below_drewN | apply below_drew1 | refine below_set ?_ (IsS67.ge HI523.out) | refine below_set ?_ GE520.out | refine below_set ?_ GE531.out))));have n3_:=Aside0.mk (blk_below (g:=gb520) (o:=.cells #[.slice none 0 0,.slice none 0 0] 28 (0,0)) (by (with_reducible repeat (first | refine blk_drewN ?_ _ | refine blk_drew ?_ | refine blk_alloc ?_ _));exact BK520.out) hb);have n4_:=Aside0.mk (IsS67.below (by repeat (with_reducible first | exact HI523.out | apply IsS67.alloc | apply IsS67.drewN | apply IsS67.drew | apply IsS67.set_1 | refine IsS67.far ?_ NB523_520.out _ | refine IsS67.far ?_ NB523_531.out _)) hb);have n5_:=Aside0.mk (blk_below (g:=gb531) (o:=.cells #[.slice Ao13 t524.length co13,.slice Ao17 t527.length co17] 28 (0,0)) (by (with_reducible repeat (first | refine blk_drewN ?_ _ | refine blk_drew ?_ | refine blk_alloc ?_ _));exact BK531.out) hb);have n6_:=Aside0.mk (below_step (by repeat (with_reducible first | exact HB.out | apply below_alloc | apply pw_below_drewN | apply below_drew1 | refine below_set ?_ (IsS67.ge HI523.out) | refine below_set ?_ GE520.out | refine below_set ?_ GE531.out)) hb);clear HO526;clear HO529;clear BK520;clear HI523;clear BK531;clear HB;have HO526:=n0_;have HO529:=n1_;have HO538:=n2_;have BK520:=n3_;have HI523:=n4_;have BK531:=n5_;have HB:=n6_;clear n0_ n1_ n2_ n3_ n4_ n5_ n6_;clear hb ho21) | ((with_reducible refine gate_callee (f:=48) rfl ?_);refine goesL_ (some 25) rfl rfl Try.func48 (by kernel_rfl) rfl #[.pointer (some ⟨g523,0,none⟩),.int .i64 6] rfl (by (try simp only [List.map_toArray,List.map_cons,List.map_nil]);first | done | rfl | (simp only [List.length_drop,List.length_take];rfl)) ?_;(with_reducible refine (spec_l6Rd_pick.calls k g523 t521 t535 6 t539 t540 w _ ?side1 ?side2 A6.out).mono ?_);(case side1=>repeat (with_reducible first | exact HI523.out | apply IsS67.alloc | apply IsS67.drewN | apply IsS67.drew | apply IsS67.set_1 | refine IsS67.far ?_ NB523_520.out _ | refine IsS67.far ?_ NB523_531.out _));(case side2=>repeat (with_reducible first | exact HB.out | apply below_alloc | apply pw_below_drewN | apply below_drew1 | refine below_set ?_ (IsS67.ge HI523.out) | refine below_set ?_ GE520.out | refine below_set ?_ GE531.out));rintro e w22 ⟨rfl,hi,hb,hk⟩;refine ⟨_,rfl,?_⟩;have n0_:=Aside0.mk (KeepBut.blk hk (g':=gb520) (o:=.cells #[.slice none 0 0,.slice none 0 0] 28 (0,0)) (by (with_reducible repeat (first | refine blk_drewN ?_ _ | refine blk_drew ?_ | refine blk_alloc ?_ _));exact BK520.out) NB520_523.out (by simp));have n1_:=Aside0.mk (Kd.R_mono (Kd.R_keep (IsS67.apart (show IsS67 w _ g523 t521 t535 from by repeat (with_reducible first | exact HI523.out | apply IsS67.alloc | apply IsS67.drewN | apply IsS67.drew | apply IsS67.set_1 | refine IsS67.far ?_ NB523_520.out _ | refine IsS67.far ?_ NB523_531.out _)) (by (with_reducible repeat (first | apply Kd.R_alloc | apply Kd.R_drewN | apply Kd.R_drew));exact HO526.out) (by decide)) hk (fun _ h=>h.2)) (fun _ h=>h.1));have n2_:=Aside0.mk (Kd.N_mono (Kd.N_keep (Kd.N_mono (ok:=fun k_=>(((((w.heap.size ≤ k_))∧(some k_ ≠ (.slice Ao13 t524.length co13:Value).ownBlock∧(k_ ≠ gb520∧k_ ≠ g523)))∧k_ ≠ gb531)∧some k_ ≠ (v537:Value).ownBlock)) (by (with_reducible repeat (first | apply Kd.N_alloc | apply Kd.N_drewN | apply Kd.N_drew));exact HO529.out) (fun k_ hk_=>(⟨hk_,hk_.1.1.2.2.2⟩:_∧k_ ≠ g523))) hk (fun _ h=>h.2)) (fun _ h=>h.1));have n3_:=Aside0.mk (KeepBut.blk hk (g':=gb531) (o:=.cells #[.slice Ao13 t524.length co13,.slice Ao17 t527.length co17] 28 (0,0)) (by (with_reducible repeat (first | refine blk_drewN ?_ _ | refine blk_drew ?_ | refine blk_alloc ?_ _));exact BK531.out) NB531_523.out (by simp));have n4_:=Aside0.mk (Kd.R_mono (Kd.R_keep (IsS67.apart (show IsS67 w _ g523 t521 t535 from by repeat (with_reducible first | exact HI523.out | apply IsS67.alloc | apply IsS67.drewN | apply IsS67.drew | apply IsS67.set_1 | refine IsS67.far ?_ NB523_520.out _ | refine IsS67.far ?_ NB523_531.out _)) (by (with_reducible repeat (first | apply Kd.R_alloc | apply Kd.R_drewN | apply Kd.R_drew));exact HO538.out) (by decide)) hk (fun _ h=>h.2)) (fun _ h=>h.1));have n5_:=Aside0.mk (hb);have n6_:=Aside0.mk (hi);clear BK520;clear HO526;clear HO529;clear BK531;clear HO538;clear HB;clear HI523;have BK520:=n0_;have HO526:=n1_;have HO529:=n2_;have BK531:=n3_;have HO538:=n4_;have HB:=n5_;have HI523:=n6_;clear n0_ n1_ n2_ n3_ n4_ n5_ n6_;(try clear hb);(try clear hb2);(try clear hk);(try clear hi);obtain ⟨Ao23,co23,eo23⟩:=Kd.R_slice HO538.out;subst eo23;have p541:0 ≤ (t539:Int):=of_decide_eq_true (by first | (with_reducible assumption) | assumption);have q541:t539 < (y536.length:Int):=of_decide_eq_true (by first | (with_reducible assumption) | assumption);obtain ⟨ad541,e541,hx541_0⟩:=Kd.at_int (Kd.R_reads' HO538.out).2.2 t539 p541 q541;cases e541;replace p541:=eq_true p541;replace q541:=eq_true q541;have hcz24_0:w22.cell? ⟨gb531,0,none⟩ = some (.slice Ao13 t524.length co13):=(blk_cell BK531.out 0).trans rfl;have hcz24_1:w22.cell? ⟨gb531,1,none⟩ = some (.slice Ao17 t527.length co17):=(blk_cell BK531.out 1).trans rfl;have hfz24_0:=blk_frozen BK531.out 0;have hfz24_1:=blk_frozen BK531.out 1;have hnb25:=NB520_523.out;have hnc25:=NB523_520.out;have hcz26_0:w22.cell? ⟨gb520,0,none⟩ = some (.slice none 0 0):=(blk_cell BK520.out 0).trans rfl;have hcz26_1:w22.cell? ⟨gb520,1,none⟩ = some (.slice none 0 0):=(blk_cell BK520.out 1).trans rfl;have hfz26_0:=blk_frozen BK520.out 0;have hfz26_1:=blk_frozen BK520.out 1))
   refine bodyPost_ret (results_list (rs:=[.cell 2 28,.tmp 3,.tmp 4,.tmp 5]) rfl (by simp) (.cell gb520 28 #[.slice Ao13 t524.length co13,.slice Ao17 t527.length co17] (0,0) _ rfl (by (with_reducible repeat (first | refine blk_drewN ?_ _ | refine blk_drew ?_ | refine blk_alloc ?_ _));refine blk_put (cs:=#[.slice Ao13 t524.length co13,.slice none 0 0]) ?_ 1 _ rfl;(with_reducible repeat (first | refine blk_drewN ?_ _ | refine blk_drew ?_ | refine blk_alloc ?_ _));refine blk_put (cs:=#[.slice none 0 0,.slice none 0 0]) ?_ 0 _ rfl;(with_reducible repeat (first | refine blk_drewN ?_ _ | refine blk_drew ?_ | refine blk_alloc ?_ _));exact BK520.out) Try.underlying28 rfl (by kernel_rfl) (.tmp (.tmp (.tmp .nil))))) rfl ?_
   exact ⟨_,_,rfl,by exact Kd.R_mono (Kd.R_far (p:=⟨gb520,1,none⟩) (Kd.R_far (p:=⟨gb520,0,none⟩) (Kd.R_types HO526.out BK520.out (by decide)) (fun _ hk=>hk.2) (.slice Ao13 t524.length co13)) (fun _ hk=>hk.2) (.slice Ao17 t527.length co17)) (fun _ hk=>hk.1.1.1),by exact Kd.N_mono (Kd.N_far (p:=⟨gb520,1,none⟩) (Kd.N_far (p:=⟨gb520,0,none⟩) (Kd.N_mono HO529.out (fun k_ hk=>(⟨hk,hk.1.1.2.2.1⟩:_∧k_ ≠ gb520))) (fun _ hk=>hk.2) (.slice Ao13 t524.length co13)) (fun _ hk=>hk.2) (.slice Ao17 t527.length co17)) (fun _ hk=>⟨hk.1.1.1.1,hk.1.1.1.2.1⟩),by repeat (with_reducible first | exact HB.out | apply below_alloc | apply pw_below_drewN | apply below_drew1 | refine below_set ?_ (IsS67.ge HI523.out) | refine below_set ?_ GE520.out | refine below_set ?_ GE531.out)⟩
  ·rw [if_neg c8] at H
   exact absurd H (by simp)
 ·rw [if_neg c7] at H
  exact absurd H (by simp)
end Go.Proofs.Ytablnoddkllhmaa.P
