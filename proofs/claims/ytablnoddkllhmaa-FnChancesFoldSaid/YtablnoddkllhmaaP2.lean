/- What the Go functions that the laws reach compute, and that their calls come to just that: told by a program of this session (aprint.py). No condition. -/
import Derived.Test.YtablnoddkllhmaaP0
import Derived.Test.YtablnoddkllhmaaP1
import Derived.Test.YtablnoddkllhmaaHClasses
import Derived.Test.YtablnoddkllhmaaHDraw
namespace Go.Proofs.Ytablnoddkllhmaa.P
open Go.RowKit Go.Proofs.YtablnoddkllhmaaW.PrintWords Go.Proofs.YtablnoddkllhmaaW.PrintLast Go.Proofs.YtablnoddkllhmaaW.PrintMore
attribute [local go_sem] max2_int min2_int max_two min_two max_three min_three max_four min_four
set_option linter.unusedVariables false
set_option linter.unusedSimpArgs false
mutual
def spec_l18Classes.l0:Nat → List Int → Int → List Int → List (List Int) → Option (List Int)
 | 0,_,_,_,_=>none
 | k + 1,x3,x4,x410000,x410001=>if x4 < (x410000.length:Int) then (spec_l18Classes.l1 k x3 x4 x4 (wrap64 (x4 - 1)) x410000 x410001) else (spec_l18Classes.l2 k x3 x410000 x410001)
def spec_l18Classes.l1:Nat → List Int → Int → Int → Int → List Int → List (List Int) → Option (List Int)
 | 0,_,_,_,_,_,_=>none
 | k + 1,x3,x4,x5,x6,x410000,x410001=>if x6 ≥ 0 then (if 0 ≤ x6 then (if x6 < (x410000.length:Int) then (if 0 ≤ x4 then (if x4 < (x410000.length:Int) then (if (rd x410000 x6) = (rd x410000 x4) then (spec_l18Classes.l1 k x3 x4 x6 (wrap64 (x6 - 1)) x410000 x410001) else (spec_l18Classes.l1 k x3 x4 x5 (wrap64 (x6 - 1)) x410000 x410001)) else (none)) else (none)) else (none)) else (none)) else (if x3.length < 17592186044416 then (spec_l18Classes.l0 k (x3 ++ [x5]) (wrap64 (x4 + 1)) x410000 x410001) else (none))
def spec_l18Classes.l2:Nat → List Int → List Int → List (List Int) → Option (List Int)
 | 0,_,_,_=>none
 | k + 1,x3,x410000,x410001=>spec_l18Classes.l3 k x3 (([]:List Int)) 0 x410000 x410001
def spec_l18Classes.l3:Nat → List Int → List Int → Int → List Int → List (List Int) → Option (List Int)
 | 0,_,_,_,_,_=>none
 | k + 1,x3,x7,x8,x410000,x410001=>if x8 < (x3.length:Int) then (spec_l18Classes.l4 k x3 x7 x8 x8 (wrap64 (x8 - 1)) x410000 x410001) else ((spec_l4Same.f k x7 x3).bind fun t421=>(if t421 = true then (some x3) else (spec_l18Classes.l2 k x7 x410000 x410001)))
def spec_l18Classes.l4:Nat → List Int → List Int → Int → Int → Int → List Int → List (List Int) → Option (List Int)
 | 0,_,_,_,_,_,_,_=>none
 | k + 1,x3,x7,x8,x9,x10,x410000,x410001=>if x10 ≥ 0 then (if 0 ≤ x10 then (if x10 < (x3.length:Int) then (if 0 ≤ x8 then (if x8 < (x3.length:Int) then (if (rd x3 x10) = (rd x3 x8) then ((spec_l18Alike.f k x410000 x410001 x8 x10 x3).bind fun t424=>(if t424 = true then (spec_l18Classes.l4 k x3 x7 x8 x10 (wrap64 (x10 - 1)) x410000 x410001) else (spec_l18Classes.l4 k x3 x7 x8 x9 (wrap64 (x10 - 1)) x410000 x410001))) else (spec_l18Classes.l4 k x3 x7 x8 x9 (wrap64 (x10 - 1)) x410000 x410001)) else (none)) else (none)) else (none)) else (none)) else (if x7.length < 17592186044416 then (spec_l18Classes.l3 k x3 (x7 ++ [x9]) (wrap64 (x8 + 1)) x410000 x410001) else (none))
end
def spec_l18Classes.f (k:Nat) (l0_0:List Int) (l0_1:List (List Int)):Option (List Int):=spec_l18Classes.l0 k (([]:List Int)) 0 l0_0 l0_1
theorem spec_l18Classes.mono_l:∀ k,(∀ y0 y1 y2 y3,LeO (spec_l18Classes.l0 k y0 y1 y2 y3) (spec_l18Classes.l0 (k + 1) y0 y1 y2 y3))∧(∀ y0 y1 y2 y3 y4 y5,LeO (spec_l18Classes.l1 k y0 y1 y2 y3 y4 y5) (spec_l18Classes.l1 (k + 1) y0 y1 y2 y3 y4 y5))∧(∀ y0 y1 y2,LeO (spec_l18Classes.l2 k y0 y1 y2) (spec_l18Classes.l2 (k + 1) y0 y1 y2))∧(∀ y0 y1 y2 y3 y4,LeO (spec_l18Classes.l3 k y0 y1 y2 y3 y4) (spec_l18Classes.l3 (k + 1) y0 y1 y2 y3 y4))∧(∀ y0 y1 y2 y3 y4 y5 y6,LeO (spec_l18Classes.l4 k y0 y1 y2 y3 y4 y5 y6) (spec_l18Classes.l4 (k + 1) y0 y1 y2 y3 y4 y5 y6))
 | 0=>⟨fun _ _ _ _ r h=>by simp [spec_l18Classes.l0] at h,fun _ _ _ _ _ _ r h=>by simp [spec_l18Classes.l1] at h,fun _ _ _ r h=>by simp [spec_l18Classes.l2] at h,fun _ _ _ _ _ r h=>by simp [spec_l18Classes.l3] at h,fun _ _ _ _ _ _ _ r h=>by simp [spec_l18Classes.l4] at h⟩
 | k + 1=>by
  obtain ⟨ih0,ih1,ih2,ih3,ih4⟩:=spec_l18Classes.mono_l k
  refine ⟨?_,?_,?_,?_,?_⟩
  ·intro y0 y1 y2 y3
   unfold spec_l18Classes.l0
   repeat' first
   | (with_reducible exact ih0 _ _ _ _)
   | (with_reducible exact ih1 _ _ _ _ _ _)
   | (with_reducible exact ih2 _ _ _)
   | (with_reducible exact ih3 _ _ _ _ _)
   | (with_reducible exact ih4 _ _ _ _ _ _ _)
   | (with_reducible exact spec_l18Alike.mono _ _ _ _ _ _)
   | (with_reducible exact spec_l4Same.mono _ _ _)
   | (with_reducible exact LeO.refl _)
   | (with_reducible exact LeO.none _)
   | (with_reducible refine LeO.ite ?_ ?_)
   | (with_reducible refine LeO.bind ?_ (fun _=>?_))
   | exact ih0 _ _ _ _
   | exact ih1 _ _ _ _ _ _
   | exact ih2 _ _ _
   | exact ih3 _ _ _ _ _
   | exact ih4 _ _ _ _ _ _ _
   | exact spec_l18Alike.mono _ _ _ _ _ _
   | exact spec_l4Same.mono _ _ _
   | exact LeO.none _
   | refine LeO.ite ?_ ?_
   | refine LeO.bind ?_ (fun _=>?_)
  ·intro y0 y1 y2 y3 y4 y5
   unfold spec_l18Classes.l1
   repeat' first
   | (with_reducible exact ih0 _ _ _ _)
   | (with_reducible exact ih1 _ _ _ _ _ _)
   | (with_reducible exact ih2 _ _ _)
   | (with_reducible exact ih3 _ _ _ _ _)
   | (with_reducible exact ih4 _ _ _ _ _ _ _)
   | (with_reducible exact spec_l18Alike.mono _ _ _ _ _ _)
   | (with_reducible exact spec_l4Same.mono _ _ _)
   | (with_reducible exact LeO.refl _)
   | (with_reducible exact LeO.none _)
   | (with_reducible refine LeO.ite ?_ ?_)
   | (with_reducible refine LeO.bind ?_ (fun _=>?_))
   | exact ih0 _ _ _ _
   | exact ih1 _ _ _ _ _ _
   | exact ih2 _ _ _
   | exact ih3 _ _ _ _ _
   | exact ih4 _ _ _ _ _ _ _
   | exact spec_l18Alike.mono _ _ _ _ _ _
   | exact spec_l4Same.mono _ _ _
   | exact LeO.none _
   | refine LeO.ite ?_ ?_
   | refine LeO.bind ?_ (fun _=>?_)
  ·intro y0 y1 y2
   unfold spec_l18Classes.l2
   repeat' first
   | (with_reducible exact ih0 _ _ _ _)
   | (with_reducible exact ih1 _ _ _ _ _ _)
   | (with_reducible exact ih2 _ _ _)
   | (with_reducible exact ih3 _ _ _ _ _)
   | (with_reducible exact ih4 _ _ _ _ _ _ _)
   | (with_reducible exact spec_l18Alike.mono _ _ _ _ _ _)
   | (with_reducible exact spec_l4Same.mono _ _ _)
   | (with_reducible exact LeO.refl _)
   | (with_reducible exact LeO.none _)
   | (with_reducible refine LeO.ite ?_ ?_)
   | (with_reducible refine LeO.bind ?_ (fun _=>?_))
   | exact ih0 _ _ _ _
   | exact ih1 _ _ _ _ _ _
   | exact ih2 _ _ _
   | exact ih3 _ _ _ _ _
   | exact ih4 _ _ _ _ _ _ _
   | exact spec_l18Alike.mono _ _ _ _ _ _
   | exact spec_l4Same.mono _ _ _
   | exact LeO.none _
   | refine LeO.ite ?_ ?_
   | refine LeO.bind ?_ (fun _=>?_)
  ·intro y0 y1 y2 y3 y4
   unfold spec_l18Classes.l3
   repeat' first
   | (with_reducible exact ih0 _ _ _ _)
   | (with_reducible exact ih1 _ _ _ _ _ _)
   | (with_reducible exact ih2 _ _ _)
   | (with_reducible exact ih3 _ _ _ _ _)
   | (with_reducible exact ih4 _ _ _ _ _ _ _)
   | (with_reducible exact spec_l18Alike.mono _ _ _ _ _ _)
   | (with_reducible exact spec_l4Same.mono _ _ _)
   | (with_reducible exact LeO.refl _)
   | (with_reducible exact LeO.none _)
   | (with_reducible refine LeO.ite ?_ ?_)
   | (with_reducible refine LeO.bind ?_ (fun _=>?_))
   | exact ih0 _ _ _ _
   | exact ih1 _ _ _ _ _ _
   | exact ih2 _ _ _
   | exact ih3 _ _ _ _ _
   | exact ih4 _ _ _ _ _ _ _
   | exact spec_l18Alike.mono _ _ _ _ _ _
   | exact spec_l4Same.mono _ _ _
   | exact LeO.none _
   | refine LeO.ite ?_ ?_
   | refine LeO.bind ?_ (fun _=>?_)
  ·intro y0 y1 y2 y3 y4 y5 y6
   unfold spec_l18Classes.l4
   repeat' first
   | (with_reducible exact ih0 _ _ _ _)
   | (with_reducible exact ih1 _ _ _ _ _ _)
   | (with_reducible exact ih2 _ _ _)
   | (with_reducible exact ih3 _ _ _ _ _)
   | (with_reducible exact ih4 _ _ _ _ _ _ _)
   | (with_reducible exact spec_l18Alike.mono _ _ _ _ _ _)
   | (with_reducible exact spec_l4Same.mono _ _ _)
   | (with_reducible exact LeO.refl _)
   | (with_reducible exact LeO.none _)
   | (with_reducible refine LeO.ite ?_ ?_)
   | (with_reducible refine LeO.bind ?_ (fun _=>?_))
   | exact ih0 _ _ _ _
   | exact ih1 _ _ _ _ _ _
   | exact ih2 _ _ _
   | exact ih3 _ _ _ _ _
   | exact ih4 _ _ _ _ _ _ _
   | exact spec_l18Alike.mono _ _ _ _ _ _
   | exact spec_l4Same.mono _ _ _
   | exact LeO.none _
   | refine LeO.ite ?_ ?_
   | refine LeO.bind ?_ (fun _=>?_)
theorem spec_l18Classes.mono:∀ a0 a1 k,LeO (spec_l18Classes.f k a0 a1) (spec_l18Classes.f (k + 1) a0 a1):=by
 intro a0 a1 k
 obtain ⟨ih0,ih1,ih2,ih3,ih4⟩:=spec_l18Classes.mono_l k
 unfold spec_l18Classes.f
 repeat' first
   | (with_reducible exact ih0 _ _ _ _)
   | (with_reducible exact ih1 _ _ _ _ _ _)
   | (with_reducible exact ih2 _ _ _)
   | (with_reducible exact ih3 _ _ _ _ _)
   | (with_reducible exact ih4 _ _ _ _ _ _ _)
   | (with_reducible exact spec_l18Alike.mono _ _ _ _ _ _)
   | (with_reducible exact spec_l4Same.mono _ _ _)
   | (with_reducible exact LeO.refl _)
   | (with_reducible exact LeO.none _)
   | (with_reducible refine LeO.ite ?_ ?_)
   | (with_reducible refine LeO.bind ?_ (fun _=>?_))
   | exact ih0 _ _ _ _
   | exact ih1 _ _ _ _ _ _
   | exact ih2 _ _ _
   | exact ih3 _ _ _ _ _
   | exact ih4 _ _ _ _ _ _ _
   | exact spec_l18Alike.mono _ _ _ _ _ _
   | exact spec_l4Same.mono _ _ _
   | exact LeO.none _
   | refine LeO.ite ?_ ?_
   | refine LeO.bind ?_ (fun _=>?_)
def spec_l18Classes.T9:Bool × List (List Nat × List Nat):=(true,[([],[]),([0],[0]),([],[]),([1,2],[1,2]),([3],[3]),([],[]),([5],[5]),([],[]),([6,7],[6,7]),([8],[8]),([4,9],[4,9])])
def spec_l18Classes.B9:List Nat:=[0,1,0,7,15,0,32,0,224,480,1023]
theorem spec_l18Classes.tab9:rtab .any (opsOf Try.f56 9) = spec_l18Classes.T9:=by kernel_rfl
theorem spec_l18Classes.bits9:waitsOk spec_l18Classes.T9.2 spec_l18Classes.B9 = true:=by kernel_rfl
def spec_l18Classes.T20:Bool × List (List Nat × List Nat):=(true,[([],[]),([],[]),([0,1],[0,1]),([2],[2]),([],[]),([],[]),([4,5],[4,5]),([6],[6]),([3,7],[3,7]),([8],[8]),([9],[9]),([9],[9]),([9],[9]),([9],[9]),([10,11,12,13,9,9],[9,10,11,12,13]),([9,14],[9,14])])
def spec_l18Classes.B20:List Nat:=[0,0,3,7,0,0,48,112,255,511,1023,1023,1023,1023,16383,32767]
theorem spec_l18Classes.tab20:rtab .any (opsOf Try.f56 20) = spec_l18Classes.T20:=by kernel_rfl
theorem spec_l18Classes.bits20:waitsOk spec_l18Classes.T20.2 spec_l18Classes.B20 = true:=by kernel_rfl
set_option maxHeartbeats 8000000 in
set_option maxRecDepth 100000 in
theorem spec_l18Classes.calls (k:Nat) (A0_0:Option Addr) (c0_0:Nat) (l0_0:List Int) (A0_1:Option Addr) (c0_1:Nat) (l0_1:List (List Int)) (r:List Int) (w:World) (hr0_0:Kd.C (Kd.int .i64) w A0_0 l0_0.length l0_0) (hc0_0:l0_0.length ≤ c0_0) (hr0_1:Kd.C (Kd.slice 3 (Kd.int .i64)) w A0_1 l0_1.length l0_1) (hc0_1:l0_1.length ≤ c0_1) (h:spec_l18Classes.f k l0_0 l0_1 = some r) :
  Calls Try.prog 56 #[.agg #[.slice A0_0 l0_0.length c0_0,.slice A0_1 l0_1.length c0_1]] w fun e w'=>∃ v0_:Value,e = .returned (v0_)∧Kd.R (Kd.int .i64) 3 w' w.heap.size (fun _=>True) v0_ r∧Below w.heap.size w w':=by
 have hu28:=Try.underlying28
 have HR0_0:=Aside0.mk hr0_0
 have HC0_0:=Aside0.mk hc0_0
 clear hr0_0 hc0_0
 have HR0_1:=Aside0.mk hr0_1
 have HC0_1:=Aside0.mk hc0_1
 clear hr0_1 hc0_1
 have HB:=Aside0.mk (Below.refl w.heap.size w)
 have H:(spec_l18Classes.l0 k (([]:List Int)) 0 l0_0 l0_1) = some r:=h
 clear h
 obtain ⟨y410,hy410⟩:∃ y_:List Int,y_ = (([]:List Int)):=⟨_,rfl⟩
 replace H:(spec_l18Classes.l0 k y410 0 l0_0 l0_1) = some r:=by rw [hy410];exact H
 have Ny410:=Aside0.mk hy410
 clear hy410
 have H':=Aside0.mk H
 clear H
 go_enter Try.func56,Try.ntmps56
 go_wp2_with (first | ((with_reducible refine gate_dst (N:=1) rfl ?_);refine box_event ?hg (N:=1) ?hd (cs:=#[.slice A0_0 l0_0.length c0_0,.slice A0_1 l0_1.length c0_1]) (t:=28) ?hr ?_;(case hd=>rfl);(case hg=>rfl);(case hr=>first | (go_simp;done) | (go_simp;rfl));intro gb409 hg w2 hbox hb;have n0_:=Aside0.mk (below_step (by exact HB.out) hb);have n1_:=Aside0.mk (hbox);have n2_:=Aside0.mk ((by rw [hg];exact (below_size (by exact HB.out)):w.heap.size ≤ gb409));have n3_:=Aside0.mk ((by rw [hg];exact (below_size (by exact HB.out)):w.heap.size ≤ gb409));clear HB;have HB:=n0_;have BK409:=n1_;have GW409:=n2_;have GE409:=n3_;clear n0_ n1_ n2_ n3_;clear hb hbox hg) | ((with_reducible refine gate_dst (N:=11) rfl ?_);refine Kd.R_lit (Kd.int .i64) _ 3 ?hg (N:=11) ?hd (xs:=([]:List Int)) (inner:=[]) (ok:=fun _=>True) (okp:=fun _=>True) ?hr ?hp (fun _ hk=>hk) trivial (Below.refl _ _) (Nat.le_refl _) (by simp) ?_;(case hd=>rfl);(case hg=>rfl);(case hr=>first | (go_simp;done) | (go_simp;rfl));(case hp=>exact (Reps.none _ _));intro v411 w3 ho4 hb hg_ hnew_;clear hg_ hnew_;(first | rw [← Ny410.out] at ho4 | (simp only [Int.reduceToNat] at ho4;rw [← Ny410.out] at ho4));have n0_:=Aside0.mk (Kd.R_lower ho4 (below_size (by exact HB.out)));have n1_:=Aside0.mk (blk_below (g:=gb409) (o:=.cells #[.slice A0_0 l0_0.length c0_0,.slice A0_1 l0_1.length c0_1] 28 (0,0)) (by exact BK409.out) hb);have n2_:=Aside0.mk (below_step (by exact HB.out) hb);clear BK409;clear HB;have HO412:=n0_;have BK409:=n1_;have HB:=n2_;clear n0_ n1_ n2_;clear hb ho4))
 go_loopg [3,4] k (fun kq v3 v4 w'=>∃ (x3_1:List Int) (x4_1:Int),v4 = .int .i64 x4_1∧Aside0 (spec_l18Classes.l0 kq x3_1 x4_1 l0_0 l0_1 = some r)∧Aside0 (kq ≤ k)∧Aside0 (Kd.R (Kd.int .i64) 3 w' w.heap.size (fun _=>True) v3 x3_1)∧Aside0 (w'.heap[gb409]? = some (.cells #[(.slice A0_0 l0_0.length c0_0),(.slice A0_1 l0_1.length c0_1)] 28 (0,0)))∧Aside0 (Below w.heap.size w w'))
 case atStart=>exact ⟨(y410),(0),(by first | rfl | (simp;done) | (simp [*];done)),H',⟨Nat.le_refl _⟩,⟨by exact HO412.out⟩,⟨by exact BK409.out⟩,⟨by exact HB.out⟩⟩
 case round =>
  clear H'
  try clear p2
  obtain ⟨x3_1,x4_1,rfl,HA,HK1,HO_3,BK409,HB⟩:=hrel
  cases gk with
  | zero=>exact absurd HA.out (by simp [spec_l18Classes.l0])
  | succ k1 =>
   have H:=HA.out
   clear HA
   simp only [spec_l18Classes.l0] at H
   by_cases c5:x4_1 < (l0_0.length:Int)
   ·rw [if_pos c5] at H
    have c5b0:decide (x4_1 < (l0_0.length:Int)) = true:=decide_eq_true c5
    clear c5
    have H':=Aside0.mk H
    clear H
    have hcz6_0:wr.cell? ⟨gb409,0,none⟩ = some (.slice A0_0 l0_0.length c0_0):=(blk_cell BK409.out 0).trans rfl
    have hcz6_1:wr.cell? ⟨gb409,1,none⟩ = some (.slice A0_1 l0_1.length c0_1):=(blk_cell BK409.out 1).trans rfl
    have hfz6_0:=blk_frozen BK409.out 0
    have hfz6_1:=blk_frozen BK409.out 1
    go_wp2
    go_loopg [5,6] k1 (fun kq v5 v6 w'=>∃ (x5_2:Int) (x6_2:Int),v5 = .int .i64 x5_2∧v6 = .int .i64 x6_2∧Aside0 (spec_l18Classes.l1 kq x3_1 x4_1 x5_2 x6_2 l0_0 l0_1 = some r)∧Aside0 (kq ≤ k1)∧Aside0 (Kd.R (Kd.int .i64) 3 w' w.heap.size (fun _=>True) u3 x3_1)∧Aside0 (w'.heap[gb409]? = some (.cells #[(.slice A0_0 l0_0.length c0_0),(.slice A0_1 l0_1.length c0_1)] 28 (0,0)))∧Aside0 (Below w.heap.size w w'))
    case atStart=>exact ⟨(x4_1),(wrap64 (x4_1 - 1)),(by first | rfl | (simp;done) | (simp [*];done)),(by first | rfl | (simp;done) | (simp [*];done)),H',⟨Nat.le_refl _⟩,⟨by exact HO_3.out⟩,⟨by exact BK409.out⟩,⟨by exact HB.out⟩⟩
    case round =>
     clear H'
     try clear p2
     try clear c5
     try clear c5b0
     try clear p6
     try clear hcz6_0
     try clear hcz6_1
     try clear hfz6_0
     try clear hfz6_1
     try clear p2
     obtain ⟨x5_2,x6_2,rfl,rfl,HA,HK2,HO_3,BK409,HB⟩:=hrel
     cases gk with
     | zero=>exact absurd HA.out (by simp [spec_l18Classes.l1])
     | succ k2 =>
      have H:=HA.out
      clear HA
      simp only [spec_l18Classes.l1] at H
      by_cases c7:x6_2 ≥ 0
      ·rw [if_pos c7] at H
       have c7b0:decide (0 ≤ x6_2) = true:=decide_eq_true c7
       clear c7
       by_cases c8:0 ≤ x6_2
       ·rw [if_pos c8] at H
        have c8b0:decide (0 ≤ x6_2) = true:=decide_eq_true c8
        clear c8
        by_cases c9:x6_2 < (l0_0.length:Int)
        ·rw [if_pos c9] at H
         have c9b0:decide (x6_2 < (l0_0.length:Int)) = true:=decide_eq_true c9
         clear c9
         by_cases c10:0 ≤ x4_1
         ·rw [if_pos c10] at H
          have c10b0:decide (0 ≤ x4_1) = true:=decide_eq_true c10
          clear c10
          by_cases c11:x4_1 < (l0_0.length:Int)
          ·rw [if_pos c11] at H
           have c11b0:decide (x4_1 < (l0_0.length:Int)) = true:=decide_eq_true c11
           clear c11
           by_cases c12:(rd l0_0 x6_2) = (rd l0_0 x4_1)
           ·rw [if_pos c12] at H
            have c12b0:((rd l0_0 x6_2) == (rd l0_0 x4_1)) = true:=beq_iff_eq.mpr c12
            have c12b1:((rd l0_0 x6_2) != (rd l0_0 x4_1)) = false:=bne_eq_false_iff_eq.mpr c12
            clear c12
            have H':=Aside0.mk H
            clear H
            try go_wp2
            have n0_:=Aside0.mk (Kd.R_drew HO_3.out)
            have n1_:=Aside0.mk (blk_drew BK409.out)
            have n2_:=Aside0.mk (below_drew1 HB.out)
            clear HO_3
            clear BK409
            clear HB
            have HO_3:=n0_
            have BK409:=n1_
            have HB:=n2_
            clear n0_ n1_ n2_
            have p413:0 ≤ (x6_2:Int):=of_decide_eq_true (by assumption)
            have q413:x6_2 < (l0_0.length:Int):=of_decide_eq_true (by assumption)
            obtain ⟨ad413,e413,hx413_0⟩:=Kd.at_int HR0_0.out x6_2 p413 q413
            have hw413_0:=hx413_0
            cases e413
            replace hx413_0:=(HB.out.cell (World.block_lt_of_cell? w _ hx413_0)).trans hx413_0
            replace p413:=eq_true p413
            replace q413:=eq_true q413
            have p414:0 ≤ (x4_1:Int):=of_decide_eq_true (by assumption)
            have q414:x4_1 < (l0_0.length:Int):=of_decide_eq_true (by assumption)
            obtain ⟨ad414,e414,hx414_0⟩:=Kd.at_int HR0_0.out x4_1 p414 q414
            have hw414_0:=hx414_0
            obtain rfl:ad413 = ad414:=(by injection e414)
            replace hx414_0:=(HB.out.cell (World.block_lt_of_cell? w _ hx414_0)).trans hx414_0
            replace p414:=eq_true p414
            replace q414:=eq_true q414
            refine start_ (n:=11) (S:=fun w'=>w'.cell? ⟨gb409,0,none⟩ = some (.slice (some ad413) l0_0.length c0_0)∧w'.cell? ⟨gb409,1,none⟩ = some (.slice A0_1 l0_1.length c0_1)∧w'.cell? (ad413.add (x6_2).toNat) = some (.int .i64 (rd l0_0 x6_2))∧w'.cell? (ad413.add (x4_1).toNat) = some (.int .i64 (rd l0_0 x4_1))) (ds:=[]) #[false,false,false,false,false,false,false,false,false,false,false] (by kernel_rfl) rfl rfl ⟨(blk_cell BK409.out 0).trans rfl,(blk_cell BK409.out 1).trans rfl,((HB.out.cell (World.block_lt_of_cell? w _ hw413_0)).trans hw413_0),((HB.out.cell (World.block_lt_of_cell? w _ hw414_0)).trans hw414_0)⟩ (fun hHeld=>?_);refine with_tabW spec_l18Classes.tab9 spec_l18Classes.bits9 (fun HT_ HW_=>?_)
            generalize wr.drew = w13 at HO_3 BK409 HB hx413_0 hx414_0 hHeld ⊢
            refine pure_ (i:=0) (N:=some 26) (v:=?_) (a':=?_) #[true,false,false,false,false,false,false,false,false,false,false] rfl rfl (any_of HT_.out (by kernel_rfl)) (fun _ _ _ h=>h) (Or.inl ⟨by rfl,?_⟩) ?_ ?_
            rotate_left;·intro w';go_simp;with_reducible rfl
            rotate_left;·simp only [Act.put,List.setIfInBounds_toArray,List.set_cons_zero,List.set_cons_succ,i64_w,i32_w];rfl
            refine pure_ (i:=2) (N:=some 28) (v:=?_) (a':=?_) #[true,false,true,false,false,false,false,false,false,false,false] rfl rfl (any_of HT_.out (by kernel_rfl)) (fun _ _ _ h=>h) (Or.inl ⟨by rfl,?_⟩) ?_ ?_
            rotate_left;·intro w';go_simp;with_reducible rfl
            rotate_left;·simp only [Act.put,List.setIfInBounds_toArray,List.set_cons_zero,List.set_cons_succ,i64_w,i32_w];rfl
            refine pure_ (i:=5) (N:=some 31) (v:=?_) (a':=?_) #[true,false,true,false,false,true,false,false,false,false,false] rfl rfl (any_of HT_.out (by kernel_rfl)) (fun _ _ _ h=>h) (Or.inl ⟨by rfl,?_⟩) ?_ ?_
            rotate_left;·intro w';go_simp;with_reducible rfl
            rotate_left;·simp only [Act.put,List.setIfInBounds_toArray,List.set_cons_zero,List.set_cons_succ,i64_w,i32_w];rfl
            refine pure_ (i:=7) (N:=some 33) (v:=?_) (a':=?_) #[true,false,true,false,false,true,false,true,false,false,false] rfl rfl (any_of HT_.out (by kernel_rfl)) (fun _ _ _ h=>h) (Or.inl ⟨by rfl,?_⟩) ?_ ?_
            rotate_left;·intro w';go_simp;with_reducible rfl
            rotate_left;·simp only [Act.put,List.setIfInBounds_toArray,List.set_cons_zero,List.set_cons_succ,i64_w,i32_w];rfl
            refine take_ (i:=1) (N:=some 27) (v:=?_) (a':=?_) #[true,true,true,false,false,true,false,true,false,false,false] rfl rfl (take_ofW HT_.out HW_.out (by kernel_rfl)) (fun _ _ _ h=>h) (Or.inl ⟨by rfl,?_⟩) hHeld ?_ ?_
            rotate_left;·rintro w' ⟨s0,s1,s2,s3⟩;go_simp;with_reducible rfl
            rotate_left;·simp only [Act.put,List.setIfInBounds_toArray,List.set_cons_zero,List.set_cons_succ,i64_w,i32_w];rfl
            refine pure_ (i:=3) (N:=some 29) (v:=?_) (a':=?_) #[true,true,true,true,false,true,false,true,false,false,false] rfl rfl (any_of HT_.out (by kernel_rfl)) (fun _ _ _ h=>h) (Or.inl ⟨by rfl,?_⟩) ?_ ?_
            rotate_left;·intro w';go_simp;with_reducible rfl
            rotate_left;·simp only [Act.put,List.setIfInBounds_toArray,List.set_cons_zero,List.set_cons_succ,i64_w,i32_w];rfl
            refine take_ (i:=4) (N:=some 30) (v:=?_) (a':=?_) #[true,true,true,true,true,true,false,true,false,false,false] rfl rfl (take_ofW HT_.out HW_.out (by kernel_rfl)) (fun _ _ _ h=>h) (Or.inl ⟨by rfl,?_⟩) hHeld ?_ ?_
            rotate_left;·rintro w' ⟨s0,s1,s2,s3⟩;go_simp;with_reducible rfl
            rotate_left;·simp only [Act.put,List.setIfInBounds_toArray,List.set_cons_zero,List.set_cons_succ,i64_w,i32_w];rfl
            refine take_ (i:=6) (N:=some 32) (v:=?_) (a':=?_) #[true,true,true,true,true,true,true,true,false,false,false] rfl rfl (take_ofW HT_.out HW_.out (by kernel_rfl)) (fun _ _ _ h=>h) (Or.inl ⟨by rfl,?_⟩) hHeld ?_ ?_
            rotate_left;·rintro w' ⟨s0,s1,s2,s3⟩;go_simp;with_reducible rfl
            rotate_left;·simp only [Act.put,List.setIfInBounds_toArray,List.set_cons_zero,List.set_cons_succ,i64_w,i32_w];rfl
            refine pure_ (i:=8) (N:=some 34) (v:=?_) (a':=?_) #[true,true,true,true,true,true,true,true,true,false,false] rfl rfl (any_of HT_.out (by kernel_rfl)) (fun _ _ _ h=>h) (Or.inl ⟨by rfl,?_⟩) ?_ ?_
            rotate_left;·intro w';go_simp;with_reducible rfl
            rotate_left;·simp only [Act.put,List.setIfInBounds_toArray,List.set_cons_zero,List.set_cons_succ,i64_w,i32_w];rfl
            refine take_ (i:=9) (N:=some 35) (v:=?_) (a':=?_) #[true,true,true,true,true,true,true,true,true,true,false] rfl rfl (take_ofW HT_.out HW_.out (by kernel_rfl)) (fun _ _ _ h=>h) (Or.inl ⟨by rfl,?_⟩) hHeld ?_ ?_
            rotate_left;·rintro w' ⟨s0,s1,s2,s3⟩;go_simp;with_reducible rfl
            rotate_left;·simp only [Act.put,List.setIfInBounds_toArray,List.set_cons_zero,List.set_cons_succ,i64_w,i32_w];rfl
            refine pure_ (i:=10) (N:=some 36) (v:=?_) (a':=?_) #[true,true,true,true,true,true,true,true,true,true,true] rfl rfl (any_of HT_.out (by kernel_rfl)) (fun _ _ _ h=>h) (Or.inl ⟨by rfl,?_⟩) ?_ ?_
            rotate_left;·intro w';go_simp;with_reducible rfl
            rotate_left;·simp only [Act.put,List.setIfInBounds_toArray,List.set_cons_zero,List.set_cons_succ,i64_w,i32_w];rfl
            refine done_ (done_of HT_.out (by kernel_rfl)) ?_
            try go_wp2
            go_roundg k2
            case measure=>have:=HK1.out;have:=HK2.out;omega
            case rel=>exact ⟨(x6_2),(wrap64 (x6_2 - 1)),(by first | rfl | (simp;done) | (simp [*];done)),(by first | rfl | (simp;done) | (simp [*];done)),H',⟨by have:=HK1.out;have:=HK2.out;omega⟩,⟨by exact HO_3.out⟩,⟨by exact BK409.out⟩,⟨by exact HB.out⟩⟩
           ·rw [if_neg c12] at H
            have c12b0:((rd l0_0 x6_2) == (rd l0_0 x4_1)) = false:=beq_eq_false_iff_ne.mpr c12
            have c12b1:((rd l0_0 x6_2) != (rd l0_0 x4_1)) = true:=bne_iff_ne.mpr c12
            have H':=Aside0.mk H
            clear H
            try go_wp2
            have n0_:=Aside0.mk (Kd.R_drew HO_3.out)
            have n1_:=Aside0.mk (blk_drew BK409.out)
            have n2_:=Aside0.mk (below_drew1 HB.out)
            clear HO_3
            clear BK409
            clear HB
            have HO_3:=n0_
            have BK409:=n1_
            have HB:=n2_
            clear n0_ n1_ n2_
            have p413:0 ≤ (x6_2:Int):=of_decide_eq_true (by assumption)
            have q413:x6_2 < (l0_0.length:Int):=of_decide_eq_true (by assumption)
            obtain ⟨ad413,e413,hx413_0⟩:=Kd.at_int HR0_0.out x6_2 p413 q413
            have hw413_0:=hx413_0
            cases e413
            replace hx413_0:=(HB.out.cell (World.block_lt_of_cell? w _ hx413_0)).trans hx413_0
            replace p413:=eq_true p413
            replace q413:=eq_true q413
            have p414:0 ≤ (x4_1:Int):=of_decide_eq_true (by assumption)
            have q414:x4_1 < (l0_0.length:Int):=of_decide_eq_true (by assumption)
            obtain ⟨ad414,e414,hx414_0⟩:=Kd.at_int HR0_0.out x4_1 p414 q414
            have hw414_0:=hx414_0
            obtain rfl:ad413 = ad414:=(by injection e414)
            replace hx414_0:=(HB.out.cell (World.block_lt_of_cell? w _ hx414_0)).trans hx414_0
            replace p414:=eq_true p414
            replace q414:=eq_true q414
            refine start_ (n:=11) (S:=fun w'=>w'.cell? ⟨gb409,0,none⟩ = some (.slice (some ad413) l0_0.length c0_0)∧w'.cell? ⟨gb409,1,none⟩ = some (.slice A0_1 l0_1.length c0_1)∧w'.cell? (ad413.add (x6_2).toNat) = some (.int .i64 (rd l0_0 x6_2))∧w'.cell? (ad413.add (x4_1).toNat) = some (.int .i64 (rd l0_0 x4_1))) (ds:=[]) #[false,false,false,false,false,false,false,false,false,false,false] (by kernel_rfl) rfl rfl ⟨(blk_cell BK409.out 0).trans rfl,(blk_cell BK409.out 1).trans rfl,((HB.out.cell (World.block_lt_of_cell? w _ hw413_0)).trans hw413_0),((HB.out.cell (World.block_lt_of_cell? w _ hw414_0)).trans hw414_0)⟩ (fun hHeld=>?_);refine with_tabW spec_l18Classes.tab9 spec_l18Classes.bits9 (fun HT_ HW_=>?_)
            generalize wr.drew = w14 at HO_3 BK409 HB hx413_0 hx414_0 hHeld ⊢
            refine pure_ (i:=0) (N:=some 26) (v:=?_) (a':=?_) #[true,false,false,false,false,false,false,false,false,false,false] rfl rfl (any_of HT_.out (by kernel_rfl)) (fun _ _ _ h=>h) (Or.inl ⟨by rfl,?_⟩) ?_ ?_
            rotate_left;·intro w';go_simp;with_reducible rfl
            rotate_left;·simp only [Act.put,List.setIfInBounds_toArray,List.set_cons_zero,List.set_cons_succ,i64_w,i32_w];rfl
            refine pure_ (i:=2) (N:=some 28) (v:=?_) (a':=?_) #[true,false,true,false,false,false,false,false,false,false,false] rfl rfl (any_of HT_.out (by kernel_rfl)) (fun _ _ _ h=>h) (Or.inl ⟨by rfl,?_⟩) ?_ ?_
            rotate_left;·intro w';go_simp;with_reducible rfl
            rotate_left;·simp only [Act.put,List.setIfInBounds_toArray,List.set_cons_zero,List.set_cons_succ,i64_w,i32_w];rfl
            refine pure_ (i:=5) (N:=some 31) (v:=?_) (a':=?_) #[true,false,true,false,false,true,false,false,false,false,false] rfl rfl (any_of HT_.out (by kernel_rfl)) (fun _ _ _ h=>h) (Or.inl ⟨by rfl,?_⟩) ?_ ?_
            rotate_left;·intro w';go_simp;with_reducible rfl
            rotate_left;·simp only [Act.put,List.setIfInBounds_toArray,List.set_cons_zero,List.set_cons_succ,i64_w,i32_w];rfl
            refine pure_ (i:=7) (N:=some 33) (v:=?_) (a':=?_) #[true,false,true,false,false,true,false,true,false,false,false] rfl rfl (any_of HT_.out (by kernel_rfl)) (fun _ _ _ h=>h) (Or.inl ⟨by rfl,?_⟩) ?_ ?_
            rotate_left;·intro w';go_simp;with_reducible rfl
            rotate_left;·simp only [Act.put,List.setIfInBounds_toArray,List.set_cons_zero,List.set_cons_succ,i64_w,i32_w];rfl
            refine take_ (i:=1) (N:=some 27) (v:=?_) (a':=?_) #[true,true,true,false,false,true,false,true,false,false,false] rfl rfl (take_ofW HT_.out HW_.out (by kernel_rfl)) (fun _ _ _ h=>h) (Or.inl ⟨by rfl,?_⟩) hHeld ?_ ?_
            rotate_left;·rintro w' ⟨s0,s1,s2,s3⟩;go_simp;with_reducible rfl
            rotate_left;·simp only [Act.put,List.setIfInBounds_toArray,List.set_cons_zero,List.set_cons_succ,i64_w,i32_w];rfl
            refine pure_ (i:=3) (N:=some 29) (v:=?_) (a':=?_) #[true,true,true,true,false,true,false,true,false,false,false] rfl rfl (any_of HT_.out (by kernel_rfl)) (fun _ _ _ h=>h) (Or.inl ⟨by rfl,?_⟩) ?_ ?_
            rotate_left;·intro w';go_simp;with_reducible rfl
            rotate_left;·simp only [Act.put,List.setIfInBounds_toArray,List.set_cons_zero,List.set_cons_succ,i64_w,i32_w];rfl
            refine take_ (i:=4) (N:=some 30) (v:=?_) (a':=?_) #[true,true,true,true,true,true,false,true,false,false,false] rfl rfl (take_ofW HT_.out HW_.out (by kernel_rfl)) (fun _ _ _ h=>h) (Or.inl ⟨by rfl,?_⟩) hHeld ?_ ?_
            rotate_left;·rintro w' ⟨s0,s1,s2,s3⟩;go_simp;with_reducible rfl
            rotate_left;·simp only [Act.put,List.setIfInBounds_toArray,List.set_cons_zero,List.set_cons_succ,i64_w,i32_w];rfl
            refine take_ (i:=6) (N:=some 32) (v:=?_) (a':=?_) #[true,true,true,true,true,true,true,true,false,false,false] rfl rfl (take_ofW HT_.out HW_.out (by kernel_rfl)) (fun _ _ _ h=>h) (Or.inl ⟨by rfl,?_⟩) hHeld ?_ ?_
            rotate_left;·rintro w' ⟨s0,s1,s2,s3⟩;go_simp;with_reducible rfl
            rotate_left;·simp only [Act.put,List.setIfInBounds_toArray,List.set_cons_zero,List.set_cons_succ,i64_w,i32_w];rfl
            refine pure_ (i:=8) (N:=some 34) (v:=?_) (a':=?_) #[true,true,true,true,true,true,true,true,true,false,false] rfl rfl (any_of HT_.out (by kernel_rfl)) (fun _ _ _ h=>h) (Or.inl ⟨by rfl,?_⟩) ?_ ?_
            rotate_left;·intro w';go_simp;with_reducible rfl
            rotate_left;·simp only [Act.put,List.setIfInBounds_toArray,List.set_cons_zero,List.set_cons_succ,i64_w,i32_w];rfl
            refine take_ (i:=9) (N:=some 35) (v:=?_) (a':=?_) #[true,true,true,true,true,true,true,true,true,true,false] rfl rfl (take_ofW HT_.out HW_.out (by kernel_rfl)) (fun _ _ _ h=>h) (Or.inl ⟨by rfl,?_⟩) hHeld ?_ ?_
            rotate_left;·rintro w' ⟨s0,s1,s2,s3⟩;go_simp;with_reducible rfl
            rotate_left;·simp only [Act.put,List.setIfInBounds_toArray,List.set_cons_zero,List.set_cons_succ,i64_w,i32_w];rfl
            refine pure_ (i:=10) (N:=some 36) (v:=?_) (a':=?_) #[true,true,true,true,true,true,true,true,true,true,true] rfl rfl (any_of HT_.out (by kernel_rfl)) (fun _ _ _ h=>h) (Or.inl ⟨by rfl,?_⟩) ?_ ?_
            rotate_left;·intro w';go_simp;with_reducible rfl
            rotate_left;·simp only [Act.put,List.setIfInBounds_toArray,List.set_cons_zero,List.set_cons_succ,i64_w,i32_w];rfl
            refine done_ (done_of HT_.out (by kernel_rfl)) ?_
            try go_wp2
            go_roundg k2
            case measure=>have:=HK1.out;have:=HK2.out;omega
            case rel=>exact ⟨(x5_2),(wrap64 (x6_2 - 1)),(by first | rfl | (simp;done) | (simp [*];done)),(by first | rfl | (simp;done) | (simp [*];done)),H',⟨by have:=HK1.out;have:=HK2.out;omega⟩,⟨by exact HO_3.out⟩,⟨by exact BK409.out⟩,⟨by exact HB.out⟩⟩
          ·rw [if_neg c11] at H
           exact absurd H (by simp)
         ·rw [if_neg c10] at H
          exact absurd H (by simp)
        ·rw [if_neg c9] at H
         exact absurd H (by simp)
       ·rw [if_neg c8] at H
        exact absurd H (by simp)
      ·rw [if_neg c7] at H
       have c7b0:decide (0 ≤ x6_2) = false:=decide_eq_false c7
       clear c7
       by_cases c15:x3_1.length < 17592186044416
       ·rw [if_pos c15] at H
        have LMc15:=Aside0.mk c15
        clear c15
        obtain ⟨y415,hy415⟩:∃ y_:List Int,y_ = (x3_1 ++ [x5_2]):=⟨_,rfl⟩
        replace H:(spec_l18Classes.l0 k2 y415 (wrap64 (x4_1 + 1)) l0_0 l0_1) = some r:=by rw [hy415];exact H
        have Ny415:=Aside0.mk hy415
        clear hy415
        have H':=Aside0.mk H
        clear H
        go_wp2_with (first | ((with_reducible refine gate_builtin (b:=.append) (xs:=#[.tmp 38,.tmp 40]) rfl ?_);at_builtin;refine Kd.R_append (Kd.int .i64) (w0:=w) w.heap.size rfl (.tmp 38) (.tmp 40) 22 3 (.int .i64 0) 8 rfl Try.underlying22 info3 rfl (by decide) (by omega) u3 x3_1 x5_2 [.int .i64 x5_2] (fun _=>True) (fun _=>False) rfl rfl ?aP (fun _ hk=>hk.elim) ?aF ?aO ?aB ?aS ?aL ?_;(case aP=>exact rfl);(case aB=>exact (by exact HB.out));(case aF=>exact (fun _ _=>trivial));(case aO=>exact (by exact HO_3.out));(case aS=>exact (below_size (by exact HB.out)));(case aL=>have:=LMc15.out;omega);intro v416 w16 ho hb hg hat;rw [← Ny415.out] at ho;have n0_:=Aside0.mk (blk_grown (g:=gb409) (o:=.cells #[.slice A0_0 l0_0.length c0_0,.slice A0_1 l0_1.length c0_1] 28 (0,0)) (by exact BK409.out) hg (Kd.R_ne HO_3.out BK409.out (by decide)));have n1_:=Aside0.mk (hb);have n2_:=Aside0.mk (ho);clear BK409;clear HB;clear HO_3;have BK409:=n0_;have HB:=n1_;have HO417:=n2_;clear n0_ n1_ n2_;clear ho hb hg hat))
        go_roundg k2
        case measure=>have:=HK1.out;have:=HK2.out;omega
        case rel=>exact ⟨(y415),(wrap64 (x4_1 + 1)),(by first | rfl | (simp;done) | (simp [*];done)),H',⟨by have:=HK1.out;have:=HK2.out;omega⟩,⟨by exact HO417.out⟩,⟨by exact BK409.out⟩,⟨by exact HB.out⟩⟩
       ·rw [if_neg c15] at H
        exact absurd H (by simp)
   ·rw [if_neg c5] at H
    have c5b0:decide (x4_1 < (l0_0.length:Int)) = false:=decide_eq_false c5
    clear c5
    have H':=Aside0.mk H
    clear H
    have hcz17_0:wr.cell? ⟨gb409,0,none⟩ = some (.slice A0_0 l0_0.length c0_0):=(blk_cell BK409.out 0).trans rfl
    have hcz17_1:wr.cell? ⟨gb409,1,none⟩ = some (.slice A0_1 l0_1.length c0_1):=(blk_cell BK409.out 1).trans rfl
    have hfz17_0:=blk_frozen BK409.out 0
    have hfz17_1:=blk_frozen BK409.out 1
    go_wp2
    go_loopg [3] k1 (fun kq v3 w'=>∃ (x3_2:List Int),Aside0 (spec_l18Classes.l2 kq x3_2 l0_0 l0_1 = some r)∧Aside0 (kq ≤ k1)∧Aside0 (Kd.R (Kd.int .i64) 3 w' w.heap.size (fun _=>True) v3 x3_2)∧Aside0 (w'.heap[gb409]? = some (.cells #[(.slice A0_0 l0_0.length c0_0),(.slice A0_1 l0_1.length c0_1)] 28 (0,0)))∧Aside0 (Below w.heap.size w w'))
    case atStart=>exact ⟨(x3_1),H',⟨Nat.le_refl _⟩,⟨by exact HO_3.out⟩,⟨by exact BK409.out⟩,⟨by exact HB.out⟩⟩
    case round =>
     clear H'
     try clear c1
     try clear p2
     try clear p4
     try clear q4
     try clear hx4
     try clear c5
     try clear c5b0
     try clear p6
     try clear c7
     try clear c7b0
     try clear c8
     try clear c8b0
     try clear c9
     try clear c9b0
     try clear c10
     try clear c10b0
     try clear c11
     try clear c11b0
     try clear c12
     try clear c12b0
     try clear c12b1
     try clear c15
     try clear hcz17_0
     try clear hcz17_1
     try clear hcz6_0
     try clear hcz6_1
     try clear hfz17_0
     try clear hfz17_1
     try clear hfz6_0
     try clear hfz6_1
     try clear hx413_0
     try clear hx414_0
     try clear p2
     try clear p413
     try clear p414
     try clear p6
     try clear q413
     try clear q414
     obtain ⟨x3_2,HA,HK2,HO_3,BK409,HB⟩:=hrel
     cases gk with
     | zero=>exact absurd HA.out (by simp [spec_l18Classes.l2])
     | succ k2 =>
      have H:=HA.out
      clear HA
      simp only [spec_l18Classes.l2] at H
      obtain ⟨y418,hy418⟩:∃ y_:List Int,y_ = (([]:List Int)):=⟨_,rfl⟩
      replace H:(spec_l18Classes.l3 k2 x3_2 y418 0 l0_0 l0_1) = some r:=by rw [hy418];exact H
      have Ny418:=Aside0.mk hy418
      clear hy418
      have H':=Aside0.mk H
      clear H
      go_wp2_with (first | ((with_reducible refine gate_dst (N:=42) rfl ?_);refine Kd.R_lit (Kd.int .i64) _ 3 ?hg (N:=42) ?hd (xs:=([]:List Int)) (inner:=[]) (ok:=fun _=>True) (okp:=fun _=>True) ?hr ?hp (fun _ hk=>hk) trivial (Below.refl _ _) (Nat.le_refl _) (by simp) ?_;(case hd=>rfl);(case hg=>rfl);(case hr=>first | (go_simp;done) | (go_simp;rfl));(case hp=>exact (Reps.none _ _));intro v419 w18 ho19 hb hg_ hnew_;clear hg_ hnew_;(first | rw [← Ny418.out] at ho19 | (simp only [Int.reduceToNat] at ho19;rw [← Ny418.out] at ho19));have n0_:=Aside0.mk (Kd.R_elder' (by exact HO_3.out) (Kd.R_base ho19) hb);have n1_:=Aside0.mk (Kd.R_lower (Kd.R_new' ho19 (Kd.R_lt (by exact HO_3.out))) (below_size (by exact HB.out)));have n2_:=Aside0.mk (blk_below (g:=gb409) (o:=.cells #[.slice A0_0 l0_0.length c0_0,.slice A0_1 l0_1.length c0_1] 28 (0,0)) (by exact BK409.out) hb);have n3_:=Aside0.mk (below_step (by exact HB.out) hb);clear HO_3;clear BK409;clear HB;have HO_3:=n0_;have HO420:=n1_;have BK409:=n2_;have HB:=n3_;clear n0_ n1_ n2_ n3_;clear hb ho19))
      go_loopg [7,8] k2 (fun kq v7 v8 w'=>∃ (x7_3:List Int) (x8_3:Int),v8 = .int .i64 x8_3∧Aside0 (spec_l18Classes.l3 kq x3_2 x7_3 x8_3 l0_0 l0_1 = some r)∧Aside0 (kq ≤ k2)∧Aside0 (Kd.R (Kd.int .i64) 3 w' w.heap.size (fun k_=>some k_ ≠ (v7:Value).ownBlock) u3 x3_2)∧Aside0 (Kd.R (Kd.int .i64) 3 w' w.heap.size (fun k_=>some k_ ≠ (u3:Value).ownBlock) v7 x7_3)∧Aside0 (w'.heap[gb409]? = some (.cells #[(.slice A0_0 l0_0.length c0_0),(.slice A0_1 l0_1.length c0_1)] 28 (0,0)))∧Aside0 (Below w.heap.size w w'))
      case atStart=>exact ⟨(y418),(0),(by first | rfl | (simp;done) | (simp [*];done)),H',⟨Nat.le_refl _⟩,⟨by exact Kd.R_mono HO_3.out (fun _ hk=>hk.2)⟩,⟨by exact Kd.R_mono HO420.out (fun _ hk=>hk.2)⟩,⟨by exact BK409.out⟩,⟨by exact HB.out⟩⟩
      case round =>
       clear H'
       try clear c1
       try clear p2
       try clear p4
       try clear q4
       try clear hx4
       try clear c5
       try clear c5b0
       try clear p6
       try clear c7
       try clear c7b0
       try clear c8
       try clear c8b0
       try clear c9
       try clear c9b0
       try clear c10
       try clear c10b0
       try clear c11
       try clear c11b0
       try clear c12
       try clear c12b0
       try clear c12b1
       try clear c15
       try clear hcz17_0
       try clear hcz17_1
       try clear hcz6_0
       try clear hcz6_1
       try clear hfz17_0
       try clear hfz17_1
       try clear hfz6_0
       try clear hfz6_1
       try clear hx413_0
       try clear hx414_0
       try clear p2
       try clear p4
       try clear p413
       try clear p414
       try clear p6
       try clear q4
       try clear q413
       try clear q414
       obtain ⟨x7_3,x8_3,rfl,HA,HK3,HO_3,HO_7,BK409,HB⟩:=hrel
       cases gk with
       | zero=>exact absurd HA.out (by simp [spec_l18Classes.l3])
       | succ k3 =>
        have H:=HA.out
        clear HA
        simp only [spec_l18Classes.l3] at H
        by_cases c20:x8_3 < (x3_2.length:Int)
        ·rw [if_pos c20] at H
         have c20b0:decide (x8_3 < (x3_2.length:Int)) = true:=decide_eq_true c20
         clear c20
         have H':=Aside0.mk H
         clear H
         obtain ⟨Ao21,co21,eo21⟩:=Kd.R_slice HO_3.out
         subst eo21
         go_wp2
         go_loopg [9,10] k3 (fun kq v9 v10 w'=>∃ (x9_4:Int) (x10_4:Int),v9 = .int .i64 x9_4∧v10 = .int .i64 x10_4∧Aside0 (spec_l18Classes.l4 kq x3_2 x7_3 x8_3 x9_4 x10_4 l0_0 l0_1 = some r)∧Aside0 (kq ≤ k3)∧Aside0 (Kd.R (Kd.int .i64) 3 w' w.heap.size (fun k_=>some k_ ≠ (u7:Value).ownBlock) (.slice Ao21 x3_2.length co21) x3_2)∧Aside0 (Kd.R (Kd.int .i64) 3 w' w.heap.size (fun k_=>some k_ ≠ ((.slice Ao21 x3_2.length co21):Value).ownBlock) u7 x7_3)∧Aside0 (w'.heap[gb409]? = some (.cells #[(.slice A0_0 l0_0.length c0_0),(.slice A0_1 l0_1.length c0_1)] 28 (0,0)))∧Aside0 (Below w.heap.size w w'))
         case atStart=>exact ⟨(x8_3),(wrap64 (x8_3 - 1)),(by first | rfl | (simp;done) | (simp [*];done)),(by first | rfl | (simp;done) | (simp [*];done)),H',⟨Nat.le_refl _⟩,⟨by exact HO_3.out⟩,⟨by exact HO_7.out⟩,⟨by exact BK409.out⟩,⟨by exact HB.out⟩⟩
         case round =>
          clear H'
          try clear c1
          try clear c2
          try clear p2
          try clear p4
          try clear q4
          try clear hx4
          try clear c5
          try clear c5b0
          try clear p6
          try clear c7
          try clear c7b0
          try clear c8
          try clear c8b0
          try clear c9
          try clear c9b0
          try clear c10
          try clear c10b0
          try clear c11
          try clear c11b0
          try clear c12
          try clear c12b0
          try clear c12b1
          try clear c15
          try clear c20
          try clear c20b0
          try clear hcz17_0
          try clear hcz17_1
          try clear hcz6_0
          try clear hcz6_1
          try clear hfz17_0
          try clear hfz17_1
          try clear hfz6_0
          try clear hfz6_1
          try clear hx413_0
          try clear hx414_0
          try clear p2
          try clear p4
          try clear p413
          try clear p414
          try clear p6
          try clear q4
          try clear q413
          try clear q414
          obtain ⟨x9_4,x10_4,rfl,rfl,HA,HK4,HO_3,HO_7,BK409,HB⟩:=hrel
          cases gk with
          | zero=>exact absurd HA.out (by simp [spec_l18Classes.l4])
          | succ k4 =>
           have H:=HA.out
           clear HA
           simp only [spec_l18Classes.l4] at H
           by_cases c22:x10_4 ≥ 0
           ·rw [if_pos c22] at H
            have c22b0:decide (0 ≤ x10_4) = true:=decide_eq_true c22
            clear c22
            by_cases c23:0 ≤ x10_4
            ·rw [if_pos c23] at H
             have c23b0:decide (0 ≤ x10_4) = true:=decide_eq_true c23
             clear c23
             by_cases c24:x10_4 < (x3_2.length:Int)
             ·rw [if_pos c24] at H
              have c24b0:decide (x10_4 < (x3_2.length:Int)) = true:=decide_eq_true c24
              clear c24
              by_cases c25:0 ≤ x8_3
              ·rw [if_pos c25] at H
               have c25b0:decide (0 ≤ x8_3) = true:=decide_eq_true c25
               clear c25
               by_cases c26:x8_3 < (x3_2.length:Int)
               ·rw [if_pos c26] at H
                have c26b0:decide (x8_3 < (x3_2.length:Int)) = true:=decide_eq_true c26
                clear c26
                by_cases c27:(rd x3_2 x10_4) = (rd x3_2 x8_3)
                ·rw [if_pos c27] at H
                 have c27b0:((rd x3_2 x10_4) == (rd x3_2 x8_3)) = true:=beq_iff_eq.mpr c27
                 have c27b1:((rd x3_2 x10_4) != (rd x3_2 x8_3)) = false:=bne_eq_false_iff_eq.mpr c27
                 clear c27
                 replace H:=Option.bind_eq_some_iff.mp H
                 obtain ⟨t424,A280,H⟩:=H
                 replace H:(if t424 = true then (spec_l18Classes.l4 k4 x3_2 x7_3 x8_3 x10_4 (wrap64 (x10_4 - 1)) l0_0 l0_1) else (spec_l18Classes.l4 k4 x3_2 x7_3 x8_3 x9_4 (wrap64 (x10_4 - 1)) l0_0 l0_1)) = some r:=H
                 have A28:=Aside0.mk A280
                 clear A280
                 by_cases c29:t424 = true
                 ·subst c29
                  have H1:(spec_l18Classes.l4 k4 x3_2 x7_3 x8_3 x10_4 (wrap64 (x10_4 - 1)) l0_0 l0_1) = some r:=by rw [if_pos rfl] at H;exact H
                  clear H
                  have H:=H1
                  clear H1
                  have H':=Aside0.mk H
                  clear H
                  try go_wp2
                  have n0_:=Aside0.mk (Kd.R_drew HO_3.out)
                  have n1_:=Aside0.mk (Kd.R_drew HO_7.out)
                  have n2_:=Aside0.mk (blk_drew BK409.out)
                  have n3_:=Aside0.mk (below_drew1 HB.out)
                  clear HO_3
                  clear HO_7
                  clear BK409
                  clear HB
                  have HO_3:=n0_
                  have HO_7:=n1_
                  have BK409:=n2_
                  have HB:=n3_
                  clear n0_ n1_ n2_ n3_
                  have p422:0 ≤ (x10_4:Int):=of_decide_eq_true (by assumption)
                  have q422:x10_4 < (x3_2.length:Int):=of_decide_eq_true (by assumption)
                  obtain ⟨ad422,e422,hx422_0⟩:=Kd.at_int (Kd.R_reads' HO_3.out).2.2 x10_4 p422 q422
                  cases e422
                  replace p422:=eq_true p422
                  replace q422:=eq_true q422
                  have p423:0 ≤ (x8_3:Int):=of_decide_eq_true (by assumption)
                  have q423:x8_3 < (x3_2.length:Int):=of_decide_eq_true (by assumption)
                  obtain ⟨ad423,e423,hx423_0⟩:=Kd.at_int (Kd.R_reads' HO_3.out).2.2 x8_3 p423 q423
                  obtain rfl:ad422 = ad423:=(by injection e423)
                  replace p423:=eq_true p423
                  replace q423:=eq_true q423
                  refine start_ (n:=16) (S:=fun w'=>w'.cell? ⟨gb409,0,none⟩ = some (.slice A0_0 l0_0.length c0_0)∧w'.cell? ⟨gb409,1,none⟩ = some (.slice A0_1 l0_1.length c0_1)∧w'.cell? (ad422.add (x10_4).toNat) = some (.int .i64 (rd x3_2 x10_4))∧w'.cell? (ad422.add (x8_3).toNat) = some (.int .i64 (rd x3_2 x8_3))) (ds:=[]) #[false,false,false,false,false,false,false,false,false,false,false,false,false,false,false,false] (by kernel_rfl) rfl rfl ⟨(blk_cell BK409.out 0).trans rfl,(blk_cell BK409.out 1).trans rfl,hx422_0,hx423_0⟩ (fun hHeld=>?_);refine with_tabW spec_l18Classes.tab20 spec_l18Classes.bits20 (fun HT_ HW_=>?_)
                  generalize wr.drew = w30 at HO_3 HO_7 BK409 HB hx422_0 hx423_0 hHeld ⊢
                  refine pure_ (i:=0) (N:=some 56) (v:=?_) (a':=?_) #[true,false,false,false,false,false,false,false,false,false,false,false,false,false,false,false] rfl rfl (any_of HT_.out (by kernel_rfl)) (fun _ _ _ h=>h) (Or.inl ⟨by rfl,?_⟩) ?_ ?_
                  rotate_left;·intro w';go_simp;with_reducible rfl
                  rotate_left;·simp only [Act.put,List.setIfInBounds_toArray,List.set_cons_zero,List.set_cons_succ,i64_w,i32_w];rfl
                  refine pure_ (i:=1) (N:=some 57) (v:=?_) (a':=?_) #[true,true,false,false,false,false,false,false,false,false,false,false,false,false,false,false] rfl rfl (any_of HT_.out (by kernel_rfl)) (fun _ _ _ h=>h) (Or.inl ⟨by rfl,?_⟩) ?_ ?_
                  rotate_left;·intro w';go_simp;with_reducible rfl
                  rotate_left;·simp only [Act.put,List.setIfInBounds_toArray,List.set_cons_zero,List.set_cons_succ,i64_w,i32_w];rfl
                  refine pure_ (i:=2) (N:=some 58) (v:=?_) (a':=?_) #[true,true,true,false,false,false,false,false,false,false,false,false,false,false,false,false] rfl rfl (any_of HT_.out (by kernel_rfl)) (fun _ _ _ h=>h) (Or.inl ⟨by rfl,?_⟩) ?_ ?_
                  rotate_left;·intro w';go_simp;with_reducible rfl
                  rotate_left;·simp only [Act.put,List.setIfInBounds_toArray,List.set_cons_zero,List.set_cons_succ,i64_w,i32_w];rfl
                  refine pure_ (i:=4) (N:=some 60) (v:=?_) (a':=?_) #[true,true,true,false,true,false,false,false,false,false,false,false,false,false,false,false] rfl rfl (any_of HT_.out (by kernel_rfl)) (fun _ _ _ h=>h) (Or.inl ⟨by rfl,?_⟩) ?_ ?_
                  rotate_left;·intro w';go_simp;with_reducible rfl
                  rotate_left;·simp only [Act.put,List.setIfInBounds_toArray,List.set_cons_zero,List.set_cons_succ,i64_w,i32_w];rfl
                  refine pure_ (i:=5) (N:=some 61) (v:=?_) (a':=?_) #[true,true,true,false,true,true,false,false,false,false,false,false,false,false,false,false] rfl rfl (any_of HT_.out (by kernel_rfl)) (fun _ _ _ h=>h) (Or.inl ⟨by rfl,?_⟩) ?_ ?_
                  rotate_left;·intro w';go_simp;with_reducible rfl
                  rotate_left;·simp only [Act.put,List.setIfInBounds_toArray,List.set_cons_zero,List.set_cons_succ,i64_w,i32_w];rfl
                  refine pure_ (i:=6) (N:=some 62) (v:=?_) (a':=?_) #[true,true,true,false,true,true,true,false,false,false,false,false,false,false,false,false] rfl rfl (any_of HT_.out (by kernel_rfl)) (fun _ _ _ h=>h) (Or.inl ⟨by rfl,?_⟩) ?_ ?_
                  rotate_left;·intro w';go_simp;with_reducible rfl
                  rotate_left;·simp only [Act.put,List.setIfInBounds_toArray,List.set_cons_zero,List.set_cons_succ,i64_w,i32_w];rfl
                  refine take_ (i:=3) (N:=some 59) (v:=?_) (a':=?_) #[true,true,true,true,true,true,true,false,false,false,false,false,false,false,false,false] rfl rfl (take_ofW HT_.out HW_.out (by kernel_rfl)) (fun _ _ _ h=>h) (Or.inl ⟨by rfl,?_⟩) hHeld ?_ ?_
                  rotate_left;·rintro w' ⟨s0,s1,s2,s3⟩;go_simp;with_reducible rfl
                  rotate_left;·simp only [Act.put,List.setIfInBounds_toArray,List.set_cons_zero,List.set_cons_succ,i64_w,i32_w];rfl
                  refine take_ (i:=7) (N:=some 63) (v:=?_) (a':=?_) #[true,true,true,true,true,true,true,true,false,false,false,false,false,false,false,false] rfl rfl (take_ofW HT_.out HW_.out (by kernel_rfl)) (fun _ _ _ h=>h) (Or.inl ⟨by rfl,?_⟩) hHeld ?_ ?_
                  rotate_left;·rintro w' ⟨s0,s1,s2,s3⟩;go_simp;with_reducible rfl
                  rotate_left;·simp only [Act.put,List.setIfInBounds_toArray,List.set_cons_zero,List.set_cons_succ,i64_w,i32_w];rfl
                  refine pure_ (i:=8) (N:=some 64) (v:=?_) (a':=?_) #[true,true,true,true,true,true,true,true,true,false,false,false,false,false,false,false] rfl rfl (any_of HT_.out (by kernel_rfl)) (fun _ _ _ h=>h) (Or.inl ⟨by rfl,?_⟩) ?_ ?_
                  rotate_left;·intro w';go_simp;with_reducible rfl
                  rotate_left;·simp only [Act.put,List.setIfInBounds_toArray,List.set_cons_zero,List.set_cons_succ,i64_w,i32_w];rfl
                  refine pure_ (i:=9) (N:=some 65) (v:=?_) (a':=?_) #[true,true,true,true,true,true,true,true,true,true,false,false,false,false,false,false] rfl rfl (any_of HT_.out (by kernel_rfl)) (fun _ _ _ h=>h) (Or.inl ⟨by rfl,?_⟩) ?_ ?_
                  rotate_left;·intro w';go_simp;with_reducible rfl
                  rotate_left;·simp only [Act.put,List.setIfInBounds_toArray,List.set_cons_zero,List.set_cons_succ,i64_w,i32_w];rfl
                  refine pure_ (i:=11) (N:=some 67) (v:=?_) (a':=?_) #[true,true,true,true,true,true,true,true,true,true,false,true,false,false,false,false] rfl rfl (any_of HT_.out (by kernel_rfl)) (fun _ _ _ h=>h) (Or.inl ⟨by rfl,?_⟩) ?_ ?_
                  rotate_left;·intro w';go_simp;with_reducible rfl
                  rotate_left;·simp only [Act.put,List.setIfInBounds_toArray,List.set_cons_zero,List.set_cons_succ,i64_w,i32_w];rfl
                  refine pure_ (i:=12) (N:=some 68) (v:=?_) (a':=?_) #[true,true,true,true,true,true,true,true,true,true,false,true,true,false,false,false] rfl rfl (any_of HT_.out (by kernel_rfl)) (fun _ _ _ h=>h) (Or.inl ⟨by rfl,?_⟩) ?_ ?_
                  rotate_left;·intro w';go_simp;with_reducible rfl
                  rotate_left;·simp only [Act.put,List.setIfInBounds_toArray,List.set_cons_zero,List.set_cons_succ,i64_w,i32_w];rfl
                  refine pure_ (i:=13) (N:=some 69) (v:=?_) (a':=?_) #[true,true,true,true,true,true,true,true,true,true,false,true,true,true,false,false] rfl rfl (any_of HT_.out (by kernel_rfl)) (fun _ _ _ h=>h) (Or.inl ⟨by rfl,?_⟩) ?_ ?_
                  rotate_left;·intro w';go_simp;with_reducible rfl
                  rotate_left;·simp only [Act.put,List.setIfInBounds_toArray,List.set_cons_zero,List.set_cons_succ,i64_w,i32_w];rfl
                  refine take_ (i:=10) (N:=some 66) (v:=?_) (a':=?_) #[true,true,true,true,true,true,true,true,true,true,true,true,true,true,false,false] rfl rfl (take_ofW HT_.out HW_.out (by kernel_rfl)) (fun _ _ _ h=>h) (Or.inl ⟨by rfl,?_⟩) hHeld ?_ ?_
                  rotate_left;·rintro w' ⟨s0,s1,s2,s3⟩;go_simp;with_reducible rfl
                  rotate_left;·simp only [Act.put,List.setIfInBounds_toArray,List.set_cons_zero,List.set_cons_succ,i64_w,i32_w];rfl
                  refine one_ (i:=14) (N:=some 70) #[true,true,true,true,true,true,true,true,true,true,true,true,true,true,true,false] rfl rfl (one_of HT_.out (by kernel_rfl)) (by decide) (fun K hK=>?_)
                  refine goes_ Try.func64 (by kernel_rfl) rfl #[.agg #[.slice A0_0 l0_0.length c0_0,.slice A0_1 l0_1.length c0_1],.int .i64 x8_3,.int .i64 x10_4,.slice (some ad422) x3_2.length co21] (by rfl) rfl rfl (by (try simp only [List.map_toArray,List.map_cons,List.map_nil]);first | done | rfl | (simp only [List.length_drop,List.length_take];rfl)) ?_
                  with_reducible refine (spec_l18Alike.calls k4 _ _ l0_0 _ _ l0_1 x8_3 x10_4 _ _ x3_2 true _ ?side1 ?side2 ?side3 ?side4 ?side5 ?side6 A28.out).mono ?_
                  (case side1=>exact (Kd.C_below HR0_0.out HB.out))
                  (case side2=>exact HC0_0.out)
                  (case side3=>exact (Kd.C_below HR0_1.out HB.out))
                  (case side4=>exact HC0_1.out)
                  (case side5=>exact (Kd.R_reads' HO_3.out).2.2)
                  (case side6=>exact (Kd.R_reads' HO_3.out).2.1)
                  rintro e w31 ⟨rfl,hb⟩
                  have HS2_:=(hb.cell (World.block_lt_of_cell? _ _ (hHeld.2.2.1))).trans (hHeld.2.2.1)
                  have HS3_:=(hb.cell (World.block_lt_of_cell? _ _ (hHeld.2.2.2))).trans (hHeld.2.2.2)
                  refine ⟨_,rfl,?_⟩
                  have n0_:=Aside0.mk (Kd.R_below (by exact HO_3.out) hb)
                  have n1_:=Aside0.mk (Kd.R_below (by exact HO_7.out) hb)
                  have n2_:=Aside0.mk (blk_below (g:=gb409) (o:=.cells #[.slice A0_0 l0_0.length c0_0,.slice A0_1 l0_1.length c0_1] 28 (0,0)) (by exact BK409.out) hb)
                  have n3_:=Aside0.mk (below_step (by exact HB.out) hb)
                  clear HO_3
                  clear HO_7
                  clear BK409
                  clear HB
                  have HO_3:=n0_
                  have HO_7:=n1_
                  have BK409:=n2_
                  have HB:=n3_
                  clear n0_ n1_ n2_ n3_
                  (try clear hb)
                  (try clear hb2)
                  (try clear hk)
                  (try clear hi)
                  refine hK.out _ _ ⟨(blk_cell BK409.out 0).trans rfl,(blk_cell BK409.out 1).trans rfl,HS2_,HS3_⟩ (fun hHeld=>?_)
                  clear hK K
                  refine norm_ (a':=?_) ?_ ?_
                  rotate_left
                  ·show Act.put _ (some 70) _ = _
                   simp only [Act.put,List.setIfInBounds_toArray,List.set_cons_zero,List.set_cons_succ,i64_w,i32_w]
                   rfl
                  refine pure_ (i:=15) (N:=some 71) (v:=?_) (a':=?_) #[true,true,true,true,true,true,true,true,true,true,true,true,true,true,true,true] rfl rfl (any_of HT_.out (by kernel_rfl)) (fun _ _ _ h=>h) (Or.inl ⟨by rfl,?_⟩) ?_ ?_
                  rotate_left;·intro w';go_simp;with_reducible rfl
                  rotate_left;·simp only [Act.put,List.setIfInBounds_toArray,List.set_cons_zero,List.set_cons_succ,i64_w,i32_w];rfl
                  refine done_ (done_of HT_.out (by kernel_rfl)) ?_
                  try go_wp2
                  go_roundg k4
                  case measure=>have:=HK1.out;have:=HK2.out;have:=HK3.out;have:=HK4.out;omega
                  case rel=>exact ⟨(x10_4),(wrap64 (x10_4 - 1)),(by first | rfl | (simp;done) | (simp [*];done)),(by first | rfl | (simp;done) | (simp [*];done)),H',⟨by have:=HK1.out;have:=HK2.out;have:=HK3.out;have:=HK4.out;omega⟩,⟨by exact HO_3.out⟩,⟨by exact HO_7.out⟩,⟨by exact BK409.out⟩,⟨by exact HB.out⟩⟩
                 ·replace c29:=Bool.eq_false_iff.mpr c29
                  subst c29
                  have H1:(spec_l18Classes.l4 k4 x3_2 x7_3 x8_3 x9_4 (wrap64 (x10_4 - 1)) l0_0 l0_1) = some r:=by rw [if_neg (show ¬ (false = true) by decide)] at H;exact H
                  clear H
                  have H:=H1
                  clear H1
                  have H':=Aside0.mk H
                  clear H
                  try go_wp2
                  have n0_:=Aside0.mk (Kd.R_drew HO_3.out)
                  have n1_:=Aside0.mk (Kd.R_drew HO_7.out)
                  have n2_:=Aside0.mk (blk_drew BK409.out)
                  have n3_:=Aside0.mk (below_drew1 HB.out)
                  clear HO_3
                  clear HO_7
                  clear BK409
                  clear HB
                  have HO_3:=n0_
                  have HO_7:=n1_
                  have BK409:=n2_
                  have HB:=n3_
                  clear n0_ n1_ n2_ n3_
                  have p422:0 ≤ (x10_4:Int):=of_decide_eq_true (by assumption)
                  have q422:x10_4 < (x3_2.length:Int):=of_decide_eq_true (by assumption)
                  obtain ⟨ad422,e422,hx422_0⟩:=Kd.at_int (Kd.R_reads' HO_3.out).2.2 x10_4 p422 q422
                  cases e422
                  replace p422:=eq_true p422
                  replace q422:=eq_true q422
                  have p423:0 ≤ (x8_3:Int):=of_decide_eq_true (by assumption)
                  have q423:x8_3 < (x3_2.length:Int):=of_decide_eq_true (by assumption)
                  obtain ⟨ad423,e423,hx423_0⟩:=Kd.at_int (Kd.R_reads' HO_3.out).2.2 x8_3 p423 q423
                  obtain rfl:ad422 = ad423:=(by injection e423)
                  replace p423:=eq_true p423
                  replace q423:=eq_true q423
                  refine start_ (n:=16) (S:=fun w'=>w'.cell? ⟨gb409,0,none⟩ = some (.slice A0_0 l0_0.length c0_0)∧w'.cell? ⟨gb409,1,none⟩ = some (.slice A0_1 l0_1.length c0_1)∧w'.cell? (ad422.add (x10_4).toNat) = some (.int .i64 (rd x3_2 x10_4))∧w'.cell? (ad422.add (x8_3).toNat) = some (.int .i64 (rd x3_2 x8_3))) (ds:=[]) #[false,false,false,false,false,false,false,false,false,false,false,false,false,false,false,false] (by kernel_rfl) rfl rfl ⟨(blk_cell BK409.out 0).trans rfl,(blk_cell BK409.out 1).trans rfl,hx422_0,hx423_0⟩ (fun hHeld=>?_);refine with_tabW spec_l18Classes.tab20 spec_l18Classes.bits20 (fun HT_ HW_=>?_)
                  generalize wr.drew = w32 at HO_3 HO_7 BK409 HB hx422_0 hx423_0 hHeld ⊢
                  refine pure_ (i:=0) (N:=some 56) (v:=?_) (a':=?_) #[true,false,false,false,false,false,false,false,false,false,false,false,false,false,false,false] rfl rfl (any_of HT_.out (by kernel_rfl)) (fun _ _ _ h=>h) (Or.inl ⟨by rfl,?_⟩) ?_ ?_
                  rotate_left;·intro w';go_simp;with_reducible rfl
                  rotate_left;·simp only [Act.put,List.setIfInBounds_toArray,List.set_cons_zero,List.set_cons_succ,i64_w,i32_w];rfl
                  refine pure_ (i:=1) (N:=some 57) (v:=?_) (a':=?_) #[true,true,false,false,false,false,false,false,false,false,false,false,false,false,false,false] rfl rfl (any_of HT_.out (by kernel_rfl)) (fun _ _ _ h=>h) (Or.inl ⟨by rfl,?_⟩) ?_ ?_
                  rotate_left;·intro w';go_simp;with_reducible rfl
                  rotate_left;·simp only [Act.put,List.setIfInBounds_toArray,List.set_cons_zero,List.set_cons_succ,i64_w,i32_w];rfl
                  refine pure_ (i:=2) (N:=some 58) (v:=?_) (a':=?_) #[true,true,true,false,false,false,false,false,false,false,false,false,false,false,false,false] rfl rfl (any_of HT_.out (by kernel_rfl)) (fun _ _ _ h=>h) (Or.inl ⟨by rfl,?_⟩) ?_ ?_
                  rotate_left;·intro w';go_simp;with_reducible rfl
                  rotate_left;·simp only [Act.put,List.setIfInBounds_toArray,List.set_cons_zero,List.set_cons_succ,i64_w,i32_w];rfl
                  refine pure_ (i:=4) (N:=some 60) (v:=?_) (a':=?_) #[true,true,true,false,true,false,false,false,false,false,false,false,false,false,false,false] rfl rfl (any_of HT_.out (by kernel_rfl)) (fun _ _ _ h=>h) (Or.inl ⟨by rfl,?_⟩) ?_ ?_
                  rotate_left;·intro w';go_simp;with_reducible rfl
                  rotate_left;·simp only [Act.put,List.setIfInBounds_toArray,List.set_cons_zero,List.set_cons_succ,i64_w,i32_w];rfl
                  refine pure_ (i:=5) (N:=some 61) (v:=?_) (a':=?_) #[true,true,true,false,true,true,false,false,false,false,false,false,false,false,false,false] rfl rfl (any_of HT_.out (by kernel_rfl)) (fun _ _ _ h=>h) (Or.inl ⟨by rfl,?_⟩) ?_ ?_
                  rotate_left;·intro w';go_simp;with_reducible rfl
                  rotate_left;·simp only [Act.put,List.setIfInBounds_toArray,List.set_cons_zero,List.set_cons_succ,i64_w,i32_w];rfl
                  refine pure_ (i:=6) (N:=some 62) (v:=?_) (a':=?_) #[true,true,true,false,true,true,true,false,false,false,false,false,false,false,false,false] rfl rfl (any_of HT_.out (by kernel_rfl)) (fun _ _ _ h=>h) (Or.inl ⟨by rfl,?_⟩) ?_ ?_
                  rotate_left;·intro w';go_simp;with_reducible rfl
                  rotate_left;·simp only [Act.put,List.setIfInBounds_toArray,List.set_cons_zero,List.set_cons_succ,i64_w,i32_w];rfl
                  refine take_ (i:=3) (N:=some 59) (v:=?_) (a':=?_) #[true,true,true,true,true,true,true,false,false,false,false,false,false,false,false,false] rfl rfl (take_ofW HT_.out HW_.out (by kernel_rfl)) (fun _ _ _ h=>h) (Or.inl ⟨by rfl,?_⟩) hHeld ?_ ?_
                  rotate_left;·rintro w' ⟨s0,s1,s2,s3⟩;go_simp;with_reducible rfl
                  rotate_left;·simp only [Act.put,List.setIfInBounds_toArray,List.set_cons_zero,List.set_cons_succ,i64_w,i32_w];rfl
                  refine take_ (i:=7) (N:=some 63) (v:=?_) (a':=?_) #[true,true,true,true,true,true,true,true,false,false,false,false,false,false,false,false] rfl rfl (take_ofW HT_.out HW_.out (by kernel_rfl)) (fun _ _ _ h=>h) (Or.inl ⟨by rfl,?_⟩) hHeld ?_ ?_
                  rotate_left;·rintro w' ⟨s0,s1,s2,s3⟩;go_simp;with_reducible rfl
                  rotate_left;·simp only [Act.put,List.setIfInBounds_toArray,List.set_cons_zero,List.set_cons_succ,i64_w,i32_w];rfl
                  refine pure_ (i:=8) (N:=some 64) (v:=?_) (a':=?_) #[true,true,true,true,true,true,true,true,true,false,false,false,false,false,false,false] rfl rfl (any_of HT_.out (by kernel_rfl)) (fun _ _ _ h=>h) (Or.inl ⟨by rfl,?_⟩) ?_ ?_
                  rotate_left;·intro w';go_simp;with_reducible rfl
                  rotate_left;·simp only [Act.put,List.setIfInBounds_toArray,List.set_cons_zero,List.set_cons_succ,i64_w,i32_w];rfl
                  refine pure_ (i:=9) (N:=some 65) (v:=?_) (a':=?_) #[true,true,true,true,true,true,true,true,true,true,false,false,false,false,false,false] rfl rfl (any_of HT_.out (by kernel_rfl)) (fun _ _ _ h=>h) (Or.inl ⟨by rfl,?_⟩) ?_ ?_
                  rotate_left;·intro w';go_simp;with_reducible rfl
                  rotate_left;·simp only [Act.put,List.setIfInBounds_toArray,List.set_cons_zero,List.set_cons_succ,i64_w,i32_w];rfl
                  refine pure_ (i:=11) (N:=some 67) (v:=?_) (a':=?_) #[true,true,true,true,true,true,true,true,true,true,false,true,false,false,false,false] rfl rfl (any_of HT_.out (by kernel_rfl)) (fun _ _ _ h=>h) (Or.inl ⟨by rfl,?_⟩) ?_ ?_
                  rotate_left;·intro w';go_simp;with_reducible rfl
                  rotate_left;·simp only [Act.put,List.setIfInBounds_toArray,List.set_cons_zero,List.set_cons_succ,i64_w,i32_w];rfl
                  refine pure_ (i:=12) (N:=some 68) (v:=?_) (a':=?_) #[true,true,true,true,true,true,true,true,true,true,false,true,true,false,false,false] rfl rfl (any_of HT_.out (by kernel_rfl)) (fun _ _ _ h=>h) (Or.inl ⟨by rfl,?_⟩) ?_ ?_
                  rotate_left;·intro w';go_simp;with_reducible rfl
                  rotate_left;·simp only [Act.put,List.setIfInBounds_toArray,List.set_cons_zero,List.set_cons_succ,i64_w,i32_w];rfl
                  refine pure_ (i:=13) (N:=some 69) (v:=?_) (a':=?_) #[true,true,true,true,true,true,true,true,true,true,false,true,true,true,false,false] rfl rfl (any_of HT_.out (by kernel_rfl)) (fun _ _ _ h=>h) (Or.inl ⟨by rfl,?_⟩) ?_ ?_
                  rotate_left;·intro w';go_simp;with_reducible rfl
                  rotate_left;·simp only [Act.put,List.setIfInBounds_toArray,List.set_cons_zero,List.set_cons_succ,i64_w,i32_w];rfl
                  refine take_ (i:=10) (N:=some 66) (v:=?_) (a':=?_) #[true,true,true,true,true,true,true,true,true,true,true,true,true,true,false,false] rfl rfl (take_ofW HT_.out HW_.out (by kernel_rfl)) (fun _ _ _ h=>h) (Or.inl ⟨by rfl,?_⟩) hHeld ?_ ?_
                  rotate_left;·rintro w' ⟨s0,s1,s2,s3⟩;go_simp;with_reducible rfl
                  rotate_left;·simp only [Act.put,List.setIfInBounds_toArray,List.set_cons_zero,List.set_cons_succ,i64_w,i32_w];rfl
                  refine one_ (i:=14) (N:=some 70) #[true,true,true,true,true,true,true,true,true,true,true,true,true,true,true,false] rfl rfl (one_of HT_.out (by kernel_rfl)) (by decide) (fun K hK=>?_)
                  refine goes_ Try.func64 (by kernel_rfl) rfl #[.agg #[.slice A0_0 l0_0.length c0_0,.slice A0_1 l0_1.length c0_1],.int .i64 x8_3,.int .i64 x10_4,.slice (some ad422) x3_2.length co21] (by rfl) rfl rfl (by (try simp only [List.map_toArray,List.map_cons,List.map_nil]);first | done | rfl | (simp only [List.length_drop,List.length_take];rfl)) ?_
                  with_reducible refine (spec_l18Alike.calls k4 _ _ l0_0 _ _ l0_1 x8_3 x10_4 _ _ x3_2 false _ ?side1 ?side2 ?side3 ?side4 ?side5 ?side6 A28.out).mono ?_
                  (case side1=>exact (Kd.C_below HR0_0.out HB.out))
                  (case side2=>exact HC0_0.out)
                  (case side3=>exact (Kd.C_below HR0_1.out HB.out))
                  (case side4=>exact HC0_1.out)
                  (case side5=>exact (Kd.R_reads' HO_3.out).2.2)
                  (case side6=>exact (Kd.R_reads' HO_3.out).2.1)
                  rintro e w33 ⟨rfl,hb⟩
                  have HS2_:=(hb.cell (World.block_lt_of_cell? _ _ (hHeld.2.2.1))).trans (hHeld.2.2.1)
                  have HS3_:=(hb.cell (World.block_lt_of_cell? _ _ (hHeld.2.2.2))).trans (hHeld.2.2.2)
                  refine ⟨_,rfl,?_⟩
                  have n0_:=Aside0.mk (Kd.R_below (by exact HO_3.out) hb)
                  have n1_:=Aside0.mk (Kd.R_below (by exact HO_7.out) hb)
                  have n2_:=Aside0.mk (blk_below (g:=gb409) (o:=.cells #[.slice A0_0 l0_0.length c0_0,.slice A0_1 l0_1.length c0_1] 28 (0,0)) (by exact BK409.out) hb)
                  have n3_:=Aside0.mk (below_step (by exact HB.out) hb)
                  clear HO_3
                  clear HO_7
                  clear BK409
                  clear HB
                  have HO_3:=n0_
                  have HO_7:=n1_
                  have BK409:=n2_
                  have HB:=n3_
                  clear n0_ n1_ n2_ n3_
                  (try clear hb)
                  (try clear hb2)
                  (try clear hk)
                  (try clear hi)
                  refine hK.out _ _ ⟨(blk_cell BK409.out 0).trans rfl,(blk_cell BK409.out 1).trans rfl,HS2_,HS3_⟩ (fun hHeld=>?_)
                  clear hK K
                  refine norm_ (a':=?_) ?_ ?_
                  rotate_left
                  ·show Act.put _ (some 70) _ = _
                   simp only [Act.put,List.setIfInBounds_toArray,List.set_cons_zero,List.set_cons_succ,i64_w,i32_w]
                   rfl
                  refine pure_ (i:=15) (N:=some 71) (v:=?_) (a':=?_) #[true,true,true,true,true,true,true,true,true,true,true,true,true,true,true,true] rfl rfl (any_of HT_.out (by kernel_rfl)) (fun _ _ _ h=>h) (Or.inl ⟨by rfl,?_⟩) ?_ ?_
                  rotate_left;·intro w';go_simp;with_reducible rfl
                  rotate_left;·simp only [Act.put,List.setIfInBounds_toArray,List.set_cons_zero,List.set_cons_succ,i64_w,i32_w];rfl
                  refine done_ (done_of HT_.out (by kernel_rfl)) ?_
                  try go_wp2
                  go_roundg k4
                  case measure=>have:=HK1.out;have:=HK2.out;have:=HK3.out;have:=HK4.out;omega
                  case rel=>exact ⟨(x9_4),(wrap64 (x10_4 - 1)),(by first | rfl | (simp;done) | (simp [*];done)),(by first | rfl | (simp;done) | (simp [*];done)),H',⟨by have:=HK1.out;have:=HK2.out;have:=HK3.out;have:=HK4.out;omega⟩,⟨by exact HO_3.out⟩,⟨by exact HO_7.out⟩,⟨by exact BK409.out⟩,⟨by exact HB.out⟩⟩
                ·rw [if_neg c27] at H
                 have c27b0:((rd x3_2 x10_4) == (rd x3_2 x8_3)) = false:=beq_eq_false_iff_ne.mpr c27
                 have c27b1:((rd x3_2 x10_4) != (rd x3_2 x8_3)) = true:=bne_iff_ne.mpr c27
                 have H':=Aside0.mk H
                 clear H
                 try go_wp2
                 have n0_:=Aside0.mk (Kd.R_drew HO_3.out)
                 have n1_:=Aside0.mk (Kd.R_drew HO_7.out)
                 have n2_:=Aside0.mk (blk_drew BK409.out)
                 have n3_:=Aside0.mk (below_drew1 HB.out)
                 clear HO_3
                 clear HO_7
                 clear BK409
                 clear HB
                 have HO_3:=n0_
                 have HO_7:=n1_
                 have BK409:=n2_
                 have HB:=n3_
                 clear n0_ n1_ n2_ n3_
                 have p422:0 ≤ (x10_4:Int):=of_decide_eq_true (by assumption)
                 have q422:x10_4 < (x3_2.length:Int):=of_decide_eq_true (by assumption)
                 obtain ⟨ad422,e422,hx422_0⟩:=Kd.at_int (Kd.R_reads' HO_3.out).2.2 x10_4 p422 q422
                 cases e422
                 replace p422:=eq_true p422
                 replace q422:=eq_true q422
                 have p423:0 ≤ (x8_3:Int):=of_decide_eq_true (by assumption)
                 have q423:x8_3 < (x3_2.length:Int):=of_decide_eq_true (by assumption)
                 obtain ⟨ad423,e423,hx423_0⟩:=Kd.at_int (Kd.R_reads' HO_3.out).2.2 x8_3 p423 q423
                 obtain rfl:ad422 = ad423:=(by injection e423)
                 replace p423:=eq_true p423
                 replace q423:=eq_true q423
                 refine start_ (n:=16) (S:=fun w'=>w'.cell? (ad422.add (x10_4).toNat) = some (.int .i64 (rd x3_2 x10_4))∧w'.cell? (ad422.add (x8_3).toNat) = some (.int .i64 (rd x3_2 x8_3))) (ds:=[]) #[false,false,false,false,false,false,false,false,false,false,false,false,false,false,false,false] (by kernel_rfl) rfl rfl ⟨hx422_0,hx423_0⟩ (fun hHeld=>?_);refine with_tabW spec_l18Classes.tab20 spec_l18Classes.bits20 (fun HT_ HW_=>?_)
                 generalize wr.drew = w34 at HO_3 HO_7 BK409 HB hx422_0 hx423_0 hHeld ⊢
                 refine pure_ (i:=0) (N:=some 56) (v:=?_) (a':=?_) #[true,false,false,false,false,false,false,false,false,false,false,false,false,false,false,false] rfl rfl (any_of HT_.out (by kernel_rfl)) (fun _ _ _ h=>h) (Or.inl ⟨by rfl,?_⟩) ?_ ?_
                 rotate_left;·intro w';go_simp;with_reducible rfl
                 rotate_left;·simp only [Act.put,List.setIfInBounds_toArray,List.set_cons_zero,List.set_cons_succ,i64_w,i32_w];rfl
                 refine pure_ (i:=1) (N:=some 57) (v:=?_) (a':=?_) #[true,true,false,false,false,false,false,false,false,false,false,false,false,false,false,false] rfl rfl (any_of HT_.out (by kernel_rfl)) (fun _ _ _ h=>h) (Or.inl ⟨by rfl,?_⟩) ?_ ?_
                 rotate_left;·intro w';go_simp;with_reducible rfl
                 rotate_left;·simp only [Act.put,List.setIfInBounds_toArray,List.set_cons_zero,List.set_cons_succ,i64_w,i32_w];rfl
                 refine pure_ (i:=2) (N:=some 58) (v:=?_) (a':=?_) #[true,true,true,false,false,false,false,false,false,false,false,false,false,false,false,false] rfl rfl (any_of HT_.out (by kernel_rfl)) (fun _ _ _ h=>h) (Or.inl ⟨by rfl,?_⟩) ?_ ?_
                 rotate_left;·intro w';go_simp;with_reducible rfl
                 rotate_left;·simp only [Act.put,List.setIfInBounds_toArray,List.set_cons_zero,List.set_cons_succ,i64_w,i32_w];rfl
                 refine pure_ (i:=4) (N:=some 60) (v:=?_) (a':=?_) #[true,true,true,false,true,false,false,false,false,false,false,false,false,false,false,false] rfl rfl (any_of HT_.out (by kernel_rfl)) (fun _ _ _ h=>h) (Or.inl ⟨by rfl,?_⟩) ?_ ?_
                 rotate_left;·intro w';go_simp;with_reducible rfl
                 rotate_left;·simp only [Act.put,List.setIfInBounds_toArray,List.set_cons_zero,List.set_cons_succ,i64_w,i32_w];rfl
                 refine pure_ (i:=5) (N:=some 61) (v:=?_) (a':=?_) #[true,true,true,false,true,true,false,false,false,false,false,false,false,false,false,false] rfl rfl (any_of HT_.out (by kernel_rfl)) (fun _ _ _ h=>h) (Or.inl ⟨by rfl,?_⟩) ?_ ?_
                 rotate_left;·intro w';go_simp;with_reducible rfl
                 rotate_left;·simp only [Act.put,List.setIfInBounds_toArray,List.set_cons_zero,List.set_cons_succ,i64_w,i32_w];rfl
                 refine pure_ (i:=6) (N:=some 62) (v:=?_) (a':=?_) #[true,true,true,false,true,true,true,false,false,false,false,false,false,false,false,false] rfl rfl (any_of HT_.out (by kernel_rfl)) (fun _ _ _ h=>h) (Or.inl ⟨by rfl,?_⟩) ?_ ?_
                 rotate_left;·intro w';go_simp;with_reducible rfl
                 rotate_left;·simp only [Act.put,List.setIfInBounds_toArray,List.set_cons_zero,List.set_cons_succ,i64_w,i32_w];rfl
                 refine take_ (i:=3) (N:=some 59) (v:=?_) (a':=?_) #[true,true,true,true,true,true,true,false,false,false,false,false,false,false,false,false] rfl rfl (take_ofW HT_.out HW_.out (by kernel_rfl)) (fun _ _ _ h=>h) (Or.inl ⟨by rfl,?_⟩) hHeld ?_ ?_
                 rotate_left;·rintro w' ⟨s0,s1⟩;go_simp;with_reducible rfl
                 rotate_left;·simp only [Act.put,List.setIfInBounds_toArray,List.set_cons_zero,List.set_cons_succ,i64_w,i32_w];rfl
                 refine take_ (i:=7) (N:=some 63) (v:=?_) (a':=?_) #[true,true,true,true,true,true,true,true,false,false,false,false,false,false,false,false] rfl rfl (take_ofW HT_.out HW_.out (by kernel_rfl)) (fun _ _ _ h=>h) (Or.inl ⟨by rfl,?_⟩) hHeld ?_ ?_
                 rotate_left;·rintro w' ⟨s0,s1⟩;go_simp;with_reducible rfl
                 rotate_left;·simp only [Act.put,List.setIfInBounds_toArray,List.set_cons_zero,List.set_cons_succ,i64_w,i32_w];rfl
                 refine pure_ (i:=8) (N:=some 64) (v:=?_) (a':=?_) #[true,true,true,true,true,true,true,true,true,false,false,false,false,false,false,false] rfl rfl (any_of HT_.out (by kernel_rfl)) (fun _ _ _ h=>h) (Or.inl ⟨by rfl,?_⟩) ?_ ?_
                 rotate_left;·intro w';go_simp;with_reducible rfl
                 rotate_left;·simp only [Act.put,List.setIfInBounds_toArray,List.set_cons_zero,List.set_cons_succ,i64_w,i32_w];rfl
                 refine pure_ (i:=9) (N:=some 65) (v:=?_) (a':=?_) #[true,true,true,true,true,true,true,true,true,true,false,false,false,false,false,false] rfl rfl (any_of HT_.out (by kernel_rfl)) (fun _ _ _ h=>h) (Or.inl ⟨by rfl,?_⟩) ?_ ?_
                 rotate_left;·intro w';go_simp;with_reducible rfl
                 rotate_left;·simp only [Act.put,List.setIfInBounds_toArray,List.set_cons_zero,List.set_cons_succ,i64_w,i32_w];rfl
                 refine pure_ (i:=10) (N:=some 66) (v:=undef) (a':=?_) #[true,true,true,true,true,true,true,true,true,true,true,false,false,false,false,false] rfl rfl (any_of HT_.out (by kernel_rfl)) (fun _ _ _ h=>h) (Or.inr ⟨by rfl,rfl⟩) ?_ ?_
                 rotate_left;·simp only [Act.put,List.setIfInBounds_toArray,List.set_cons_zero,List.set_cons_succ,i64_w,i32_w];rfl
                 refine pure_ (i:=11) (N:=some 67) (v:=undef) (a':=?_) #[true,true,true,true,true,true,true,true,true,true,true,true,false,false,false,false] rfl rfl (any_of HT_.out (by kernel_rfl)) (fun _ _ _ h=>h) (Or.inr ⟨by rfl,rfl⟩) ?_ ?_
                 rotate_left;·simp only [Act.put,List.setIfInBounds_toArray,List.set_cons_zero,List.set_cons_succ,i64_w,i32_w];rfl
                 refine pure_ (i:=12) (N:=some 68) (v:=undef) (a':=?_) #[true,true,true,true,true,true,true,true,true,true,true,true,true,false,false,false] rfl rfl (any_of HT_.out (by kernel_rfl)) (fun _ _ _ h=>h) (Or.inr ⟨by rfl,rfl⟩) ?_ ?_
                 rotate_left;·simp only [Act.put,List.setIfInBounds_toArray,List.set_cons_zero,List.set_cons_succ,i64_w,i32_w];rfl
                 refine pure_ (i:=13) (N:=some 69) (v:=undef) (a':=?_) #[true,true,true,true,true,true,true,true,true,true,true,true,true,true,false,false] rfl rfl (any_of HT_.out (by kernel_rfl)) (fun _ _ _ h=>h) (Or.inr ⟨by rfl,rfl⟩) ?_ ?_
                 rotate_left;·simp only [Act.put,List.setIfInBounds_toArray,List.set_cons_zero,List.set_cons_succ,i64_w,i32_w];rfl
                 refine pure_ (i:=14) (N:=some 70) (v:=undef) (a':=?_) #[true,true,true,true,true,true,true,true,true,true,true,true,true,true,true,false] rfl rfl (any_of HT_.out (by kernel_rfl)) (fun _ _ _ h=>h) (Or.inr ⟨by rfl,rfl⟩) ?_ ?_
                 rotate_left;·simp only [Act.put,List.setIfInBounds_toArray,List.set_cons_zero,List.set_cons_succ,i64_w,i32_w];rfl
                 refine pure_ (i:=15) (N:=some 71) (v:=?_) (a':=?_) #[true,true,true,true,true,true,true,true,true,true,true,true,true,true,true,true] rfl rfl (any_of HT_.out (by kernel_rfl)) (fun _ _ _ h=>h) (Or.inl ⟨by rfl,?_⟩) ?_ ?_
                 rotate_left;·intro w';go_simp;with_reducible rfl
                 rotate_left;·simp only [Act.put,List.setIfInBounds_toArray,List.set_cons_zero,List.set_cons_succ,i64_w,i32_w];rfl
                 refine done_ (done_of HT_.out (by kernel_rfl)) ?_
                 try go_wp2
                 go_roundg k4
                 case measure=>have:=HK1.out;have:=HK2.out;have:=HK3.out;have:=HK4.out;omega
                 case rel=>exact ⟨(x9_4),(wrap64 (x10_4 - 1)),(by first | rfl | (simp;done) | (simp [*];done)),(by first | rfl | (simp;done) | (simp [*];done)),H',⟨by have:=HK1.out;have:=HK2.out;have:=HK3.out;have:=HK4.out;omega⟩,⟨by exact HO_3.out⟩,⟨by exact HO_7.out⟩,⟨by exact BK409.out⟩,⟨by exact HB.out⟩⟩
               ·rw [if_neg c26] at H
                exact absurd H (by simp)
              ·rw [if_neg c25] at H
               exact absurd H (by simp)
             ·rw [if_neg c24] at H
              exact absurd H (by simp)
            ·rw [if_neg c23] at H
             exact absurd H (by simp)
           ·rw [if_neg c22] at H
            have c22b0:decide (0 ≤ x10_4) = false:=decide_eq_false c22
            clear c22
            by_cases c35:x7_3.length < 17592186044416
            ·rw [if_pos c35] at H
             have LMc35:=Aside0.mk c35
             clear c35
             obtain ⟨y425,hy425⟩:∃ y_:List Int,y_ = (x7_3 ++ [x9_4]):=⟨_,rfl⟩
             replace H:(spec_l18Classes.l3 k4 x3_2 y425 (wrap64 (x8_3 + 1)) l0_0 l0_1) = some r:=by rw [hy425];exact H
             have Ny425:=Aside0.mk hy425
             clear hy425
             have H':=Aside0.mk H
             clear H
             go_wp2_with (first | ((with_reducible refine gate_builtin (b:=.append) (xs:=#[.tmp 73,.tmp 75]) rfl ?_);at_builtin;refine Kd.R_append (Kd.int .i64) (w0:=w) w.heap.size rfl (.tmp 73) (.tmp 75) 22 3 (.int .i64 0) 8 rfl Try.underlying22 info3 rfl (by decide) (by omega) u7 x7_3 x9_4 [.int .i64 x9_4] (fun k_=>some k_ ≠ (.slice Ao21 x3_2.length co21:Value).ownBlock) (fun _=>False) rfl rfl ?aP (fun _ hk=>hk.elim) ?aF ?aO ?aB ?aS ?aL ?_;(case aP=>exact rfl);(case aB=>exact (by exact HB.out));(case aF=>exact (fun k_ hk=>Kd.fresh' (Kd.R_lt (by exact HO_3.out)) k_ hk));(case aO=>exact (by exact HO_7.out));(case aS=>exact (below_size (by exact HB.out)));(case aL=>have:=LMc35.out;omega);intro v426 w36 ho hb hg hat;rw [← Ny425.out] at ho;have n0_:=Aside0.mk (Kd.R_after (ok:=(fun _=>True)) (by exact Kd.R_mono HO_3.out (fun _ hk=>⟨trivial,hk⟩)) hg hat);have n1_:=Aside0.mk (blk_grown (g:=gb409) (o:=.cells #[.slice A0_0 l0_0.length c0_0,.slice A0_1 l0_1.length c0_1] 28 (0,0)) (by exact BK409.out) hg (Kd.R_ne HO_7.out BK409.out (by decide)));have n2_:=Aside0.mk (hb);have n3_:=Aside0.mk (ho);clear HO_3;clear BK409;clear HB;clear HO_7;have HO_3:=n0_;have BK409:=n1_;have HB:=n2_;have HO427:=n3_;clear n0_ n1_ n2_ n3_;clear ho hb hg hat))
             go_roundg k4
             case measure=>have:=HK1.out;have:=HK2.out;have:=HK3.out;have:=HK4.out;omega
             case rel=>exact ⟨(y425),(wrap64 (x8_3 + 1)),(by first | rfl | (simp;done) | (simp [*];done)),H',⟨by have:=HK1.out;have:=HK2.out;have:=HK3.out;have:=HK4.out;omega⟩,⟨by exact Kd.R_mono HO_3.out (fun _ hk=>hk.2)⟩,⟨by exact HO427.out⟩,⟨by exact BK409.out⟩,⟨by exact HB.out⟩⟩
            ·rw [if_neg c35] at H
             exact absurd H (by simp)
        ·rw [if_neg c20] at H
         have c20b0:decide (x8_3 < (x3_2.length:Int)) = false:=decide_eq_false c20
         clear c20
         replace H:=Option.bind_eq_some_iff.mp H
         obtain ⟨t421,A370,H⟩:=H
         replace H:(if t421 = true then (some x3_2) else (spec_l18Classes.l2 k3 x7_3 l0_0 l0_1)) = some r:=H
         have A37:=Aside0.mk A370
         clear A370
         by_cases c38:t421 = true
         ·subst c38
          have H1:(some x3_2) = some r:=by rw [if_pos rfl] at H;exact H
          clear H
          have H:=H1
          clear H1
          obtain rfl:=Option.some.inj H
          obtain ⟨Ao39,co39,eo39⟩:=Kd.R_slice HO_3.out
          subst eo39
          obtain ⟨Ao40,co40,eo40⟩:=Kd.R_slice HO_7.out
          subst eo40
          go_wp2_with (first | ((with_reducible refine gate_callee (f:=65) rfl ?_);refine goesL_ (some 79) rfl rfl Try.func65 (by kernel_rfl) rfl #[.slice Ao40 x7_3.length co40,.slice Ao39 x3_2.length co39] rfl (by (try simp only [List.map_toArray,List.map_cons,List.map_nil]);first | done | rfl | (simp only [List.length_drop,List.length_take];rfl)) ?_;(with_reducible refine (spec_l4Same.calls k3 _ _ x7_3 _ _ x3_2 true _ ?side1 ?side2 ?side3 ?side4 A37.out).mono ?_);(case side1=>repeat (first | exact (Kd.R_reads' HO_7.out).2.2 | (with_reducible refine Kd.C_alloc ?_ _) | (with_reducible refine Kd.C_drewN ?_ _) | (with_reducible refine Kd.C_drew ?_)));(case side2=>exact (Kd.R_reads' HO_7.out).2.1);(case side3=>repeat (first | exact (Kd.R_reads' HO_3.out).2.2 | (with_reducible refine Kd.C_alloc ?_ _) | (with_reducible refine Kd.C_drewN ?_ _) | (with_reducible refine Kd.C_drew ?_)));(case side4=>exact (Kd.R_reads' HO_3.out).2.1);rintro e w' ⟨rfl,⟨nd,rfl⟩⟩;refine ⟨_,rfl,?_⟩))
          go_ret
          exact ⟨_,by first | rfl | (simp [errW_none,errW_some] <;> rfl) | (simp [*,errW_none,errW_some] <;> rfl),by (with_reducible repeat (first | apply Kd.R_alloc | apply Kd.R_drewN | apply Kd.R_drew));exact Kd.R_mono HO_3.out (fun _ hk=>trivial),by repeat (with_reducible first | exact HB.out | apply below_alloc | apply pw_below_drewN | apply below_drew1 | refine below_set ?_ GE409.out)⟩
         ·replace c38:=Bool.eq_false_iff.mpr c38
          subst c38
          have H1:(spec_l18Classes.l2 k3 x7_3 l0_0 l0_1) = some r:=by rw [if_neg (show ¬ (false = true) by decide)] at H;exact H
          clear H
          have H:=H1
          clear H1
          have H':=Aside0.mk H
          clear H
          obtain ⟨Ao41,co41,eo41⟩:=Kd.R_slice HO_3.out
          subst eo41
          obtain ⟨Ao42,co42,eo42⟩:=Kd.R_slice HO_7.out
          subst eo42
          go_wp2_with (first | ((with_reducible refine gate_callee (f:=65) rfl ?_);refine goesL_ (some 79) rfl rfl Try.func65 (by kernel_rfl) rfl #[.slice Ao42 x7_3.length co42,.slice Ao41 x3_2.length co41] rfl (by (try simp only [List.map_toArray,List.map_cons,List.map_nil]);first | done | rfl | (simp only [List.length_drop,List.length_take];rfl)) ?_;(with_reducible refine (spec_l4Same.calls k3 _ _ x7_3 _ _ x3_2 false _ ?side1 ?side2 ?side3 ?side4 A37.out).mono ?_);(case side1=>repeat (first | exact (Kd.R_reads' HO_7.out).2.2 | (with_reducible refine Kd.C_alloc ?_ _) | (with_reducible refine Kd.C_drewN ?_ _) | (with_reducible refine Kd.C_drew ?_)));(case side2=>exact (Kd.R_reads' HO_7.out).2.1);(case side3=>repeat (first | exact (Kd.R_reads' HO_3.out).2.2 | (with_reducible refine Kd.C_alloc ?_ _) | (with_reducible refine Kd.C_drewN ?_ _) | (with_reducible refine Kd.C_drew ?_)));(case side4=>exact (Kd.R_reads' HO_3.out).2.1);rintro e w' ⟨rfl,⟨nd,rfl⟩⟩;refine ⟨_,rfl,?_⟩))
          go_roundg k3
          case measure=>have:=HK1.out;have:=HK2.out;have:=HK3.out;omega
          case rel=>exact ⟨(x7_3),H',⟨by have:=HK1.out;have:=HK2.out;have:=HK3.out;omega⟩,⟨by (with_reducible repeat (first | apply Kd.R_alloc | apply Kd.R_drewN | apply Kd.R_drew));exact Kd.R_mono HO_7.out (fun _ hk=>trivial)⟩,⟨by (with_reducible repeat (first | refine blk_drewN ?_ _ | refine blk_drew ?_ | refine blk_alloc ?_ _));exact BK409.out⟩,⟨by repeat (with_reducible first | exact HB.out | apply below_alloc | apply pw_below_drewN | apply below_drew1 | refine below_set ?_ GE409.out)⟩⟩
mutual
def spec_ChancesFold.l0:Nat → List Int → Int → List Int → List (List Int) → List Int → List (List Int) → Option (List Int × (List (List Int)) × Bool)
 | 0,_,_,_,_,_,_=>none
 | k + 1,x4,x6,x628000,x628001,x634000,x634001=>if x6 < (x4.length:Int) then (if 0 ≤ x6 then (if (rd x4 x6) = x6 then (spec_ChancesFold.l1 k x4 x6 (([]:List Int)) 0 x628000 x628001 x634000 x634001) else (spec_ChancesFold.l0 k x4 (wrap64 (x6 + 1)) x628000 x628001 x634000 x634001)) else (none)) else (some (x634000,x634001,true))
def spec_ChancesFold.l1:Nat → List Int → Int → List Int → Int → List Int → List (List Int) → List Int → List (List Int) → Option (List Int × (List (List Int)) × Bool)
 | 0,_,_,_,_,_,_,_,_=>none
 | k + 1,x4,x6,x7,x8,x628000,x628001,x634000,x634001=>if x8 < (x4.length:Int) then (if 0 ≤ x8 then (if (rd x4 x8) = x8 then ((spec_l18Into.f k x628000 x628001 x6 x4 x8).bind fun t639=>(if x7.length < 17592186044416 then (spec_ChancesFold.l1 k x4 x6 (x7 ++ [t639]) (wrap64 (x8 + 1)) x628000 x628001 x634000 x634001) else (none))) else (spec_ChancesFold.l1 k x4 x6 x7 (wrap64 (x8 + 1)) x628000 x628001 x634000 x634001)) else (none)) else (if 0 ≤ x6 then (if x6 < (x628000.length:Int) then (if x634000.length < 17592186044416 then (if x634001.length < 5864062014805 then (spec_ChancesFold.l0 k x4 (wrap64 (x6 + 1)) x628000 x628001 (x634000 ++ [rd x628000 x6]) (x634001 ++ [x7])) else (none)) else (none)) else (none)) else (none))
end
def spec_ChancesFold.f (k:Nat) (l0_0:List Int) (l0_1:List (List Int)):Option (List Int × (List (List Int)) × Bool):=(spec_ChancesOk.f k l0_0 l0_1).bind fun t629=>(if t629 = true then ((spec_l18Classes.f k l0_0 l0_1).bind fun t630=>(spec_ChancesFold.l0 k t630 0 l0_0 l0_1 ([]:List Int) ([]:List (List Int)))) else (some (([]:List Int),([]:List (List Int)),false)))
theorem spec_ChancesFold.mono_l:∀ k,(∀ y0 y1 y2 y3 y4 y5,LeO (spec_ChancesFold.l0 k y0 y1 y2 y3 y4 y5) (spec_ChancesFold.l0 (k + 1) y0 y1 y2 y3 y4 y5))∧(∀ y0 y1 y2 y3 y4 y5 y6 y7,LeO (spec_ChancesFold.l1 k y0 y1 y2 y3 y4 y5 y6 y7) (spec_ChancesFold.l1 (k + 1) y0 y1 y2 y3 y4 y5 y6 y7))
 | 0=>⟨fun _ _ _ _ _ _ r h=>by simp [spec_ChancesFold.l0] at h,fun _ _ _ _ _ _ _ _ r h=>by simp [spec_ChancesFold.l1] at h⟩
 | k + 1=>by
  obtain ⟨ih0,ih1⟩:=spec_ChancesFold.mono_l k
  refine ⟨?_,?_⟩
  ·intro y0 y1 y2 y3 y4 y5
   unfold spec_ChancesFold.l0
   repeat' first
   | (with_reducible exact ih0 _ _ _ _ _ _)
   | (with_reducible exact ih1 _ _ _ _ _ _ _ _)
   | (with_reducible exact spec_ChancesOk.mono _ _ _)
   | (with_reducible exact spec_l18Classes.mono _ _ _)
   | (with_reducible exact spec_l18Into.mono _ _ _ _ _ _)
   | (with_reducible exact LeO.refl _)
   | (with_reducible exact LeO.none _)
   | (with_reducible refine LeO.ite ?_ ?_)
   | (with_reducible refine LeO.bind ?_ (fun _=>?_))
   | exact ih0 _ _ _ _ _ _
   | exact ih1 _ _ _ _ _ _ _ _
   | exact spec_ChancesOk.mono _ _ _
   | exact spec_l18Classes.mono _ _ _
   | exact spec_l18Into.mono _ _ _ _ _ _
   | exact LeO.none _
   | refine LeO.ite ?_ ?_
   | refine LeO.bind ?_ (fun _=>?_)
  ·intro y0 y1 y2 y3 y4 y5 y6 y7
   unfold spec_ChancesFold.l1
   repeat' first
   | (with_reducible exact ih0 _ _ _ _ _ _)
   | (with_reducible exact ih1 _ _ _ _ _ _ _ _)
   | (with_reducible exact spec_ChancesOk.mono _ _ _)
   | (with_reducible exact spec_l18Classes.mono _ _ _)
   | (with_reducible exact spec_l18Into.mono _ _ _ _ _ _)
   | (with_reducible exact LeO.refl _)
   | (with_reducible exact LeO.none _)
   | (with_reducible refine LeO.ite ?_ ?_)
   | (with_reducible refine LeO.bind ?_ (fun _=>?_))
   | exact ih0 _ _ _ _ _ _
   | exact ih1 _ _ _ _ _ _ _ _
   | exact spec_ChancesOk.mono _ _ _
   | exact spec_l18Classes.mono _ _ _
   | exact spec_l18Into.mono _ _ _ _ _ _
   | exact LeO.none _
   | refine LeO.ite ?_ ?_
   | refine LeO.bind ?_ (fun _=>?_)
theorem spec_ChancesFold.mono:∀ a0 a1 k,LeO (spec_ChancesFold.f k a0 a1) (spec_ChancesFold.f (k + 1) a0 a1):=by
 intro a0 a1 k
 obtain ⟨ih0,ih1⟩:=spec_ChancesFold.mono_l k
 unfold spec_ChancesFold.f
 repeat' first
   | (with_reducible exact ih0 _ _ _ _ _ _)
   | (with_reducible exact ih1 _ _ _ _ _ _ _ _)
   | (with_reducible exact spec_ChancesOk.mono _ _ _)
   | (with_reducible exact spec_l18Classes.mono _ _ _)
   | (with_reducible exact spec_l18Into.mono _ _ _ _ _ _)
   | (with_reducible exact LeO.refl _)
   | (with_reducible exact LeO.none _)
   | (with_reducible refine LeO.ite ?_ ?_)
   | (with_reducible refine LeO.bind ?_ (fun _=>?_))
   | exact ih0 _ _ _ _ _ _
   | exact ih1 _ _ _ _ _ _ _ _
   | exact spec_ChancesOk.mono _ _ _
   | exact spec_l18Classes.mono _ _ _
   | exact spec_l18Into.mono _ _ _ _ _ _
   | exact LeO.none _
   | refine LeO.ite ?_ ?_
   | refine LeO.bind ?_ (fun _=>?_)
def spec_ChancesFold.T15:Bool × List (List Nat × List Nat):=(true,[([],[]),([0],[0]),([],[]),([2],[2]),([],[]),([3,4],[3,4]),([5],[5]),([6],[6]),([1,7],[1,7]),([0,1,2,3,4,5,6,7,8],[]),([9,8,8,0,1,2,3,4,5,6,7,8],[8,9])])
def spec_ChancesFold.B15:List Nat:=[0,1,0,4,0,28,60,124,255,511,1023]
theorem spec_ChancesFold.tab15:rtab .any (opsOf Try.f35 15) = spec_ChancesFold.T15:=by kernel_rfl
theorem spec_ChancesFold.bits15:waitsOk spec_ChancesFold.T15.2 spec_ChancesFold.B15 = true:=by kernel_rfl
set_option maxHeartbeats 8000000 in
set_option maxRecDepth 100000 in
theorem spec_ChancesFold.calls (k:Nat) (A0_0:Option Addr) (c0_0:Nat) (l0_0:List Int) (A0_1:Option Addr) (c0_1:Nat) (l0_1:List (List Int)) (r1:List Int) (r2:List (List Int)) (r3:Bool) (w:World) (hr0_0:Kd.C (Kd.int .i64) w A0_0 l0_0.length l0_0) (hc0_0:l0_0.length ≤ c0_0) (hr0_1:Kd.C (Kd.slice 3 (Kd.int .i64)) w A0_1 l0_1.length l0_1) (hc0_1:l0_1.length ≤ c0_1) (h:spec_ChancesFold.f k l0_0 l0_1 = some (r1,r2,r3)) :
  Calls Try.prog 35 #[.agg #[.slice A0_0 l0_0.length c0_0,.slice A0_1 l0_1.length c0_1]] w fun e w'=>∃ v0_ v1_:Value,e = .returned (.tuple #[.agg #[v0_,v1_],.bool r3])∧Kd.R (Kd.int .i64) 3 w' w.heap.size (fun k_=>(w.heap.size ≤ k_)) v0_ r1∧Kd.N (Kd.slice 3 (Kd.int .i64)) 22 w' w.heap.size (fun k_=>(w.heap.size ≤ k_)∧some k_ ≠ (v0_:Value).ownBlock) v1_ r2∧Below w.heap.size w w':=by
 have hu28:=Try.underlying28
 have HR0_0:=Aside0.mk hr0_0
 have HC0_0:=Aside0.mk hc0_0
 clear hr0_0 hc0_0
 have HR0_1:=Aside0.mk hr0_1
 have HC0_1:=Aside0.mk hc0_1
 clear hr0_1 hc0_1
 have HB:=Aside0.mk (Below.refl w.heap.size w)
 have H:((spec_ChancesOk.f k l0_0 l0_1).bind fun t629=>(if t629 = true then ((spec_l18Classes.f k l0_0 l0_1).bind fun t630=>(spec_ChancesFold.l0 k t630 0 l0_0 l0_1 ([]:List Int) ([]:List (List Int)))) else (some (([]:List Int),([]:List (List Int)),false)))) = some (r1,r2,r3):=h
 clear h
 replace H:=Option.bind_eq_some_iff.mp H
 obtain ⟨t629,A20,H⟩:=H
 replace H:(if t629 = true then ((spec_l18Classes.f k l0_0 l0_1).bind fun t630=>(spec_ChancesFold.l0 k t630 0 l0_0 l0_1 ([]:List Int) ([]:List (List Int)))) else (some (([]:List Int),([]:List (List Int)),false))) = some (r1,r2,r3):=H
 have A2:=Aside0.mk A20
 clear A20
 by_cases c3:t629 = true
 ·subst c3
  have H1:((spec_l18Classes.f k l0_0 l0_1).bind fun t630=>(spec_ChancesFold.l0 k t630 0 l0_0 l0_1 ([]:List Int) ([]:List (List Int)))) = some (r1,r2,r3):=by rw [if_pos rfl] at H;exact H
  clear H
  have H:=H1
  clear H1
  replace H:=Option.bind_eq_some_iff.mp H
  obtain ⟨t630,A40,H⟩:=H
  replace H:(spec_ChancesFold.l0 k t630 0 l0_0 l0_1 ([]:List Int) ([]:List (List Int))) = some (r1,r2,r3):=H
  have A4:=Aside0.mk A40
  clear A40
  have H':=Aside0.mk H
  clear H
  go_enter Try.func35,Try.ntmps35
  go_wp2_with (first | ((with_reducible refine gate_dst (N:=1) rfl ?_);refine box_event ?hg (N:=1) ?hd (cs:=#[.slice A0_0 l0_0.length c0_0,.slice A0_1 l0_1.length c0_1]) (t:=28) ?hr ?_;(case hd=>rfl);(case hg=>rfl);(case hr=>first | (go_simp;done) | (go_simp;rfl));intro gb627 hg w5 hbox hb;have n0_:=Aside0.mk (below_step (by repeat (with_reducible first | exact HB.out | apply below_alloc | apply pw_below_drewN | apply below_drew1)) hb);have n1_:=Aside0.mk (hbox);have n2_:=Aside0.mk ((by rw [hg];exact (below_size (by repeat (with_reducible first | exact HB.out | apply below_alloc | apply pw_below_drewN | apply below_drew1))):w.heap.size ≤ gb627));have n3_:=Aside0.mk ((by rw [hg];exact (below_size (by repeat (with_reducible first | exact HB.out | apply below_alloc | apply pw_below_drewN | apply below_drew1))):w.heap.size ≤ gb627));clear HB;have HB:=n0_;have BK627:=n1_;have GW627:=n2_;have GE627:=n3_;clear n0_ n1_ n2_ n3_;clear hb hbox hg) | ((with_reducible refine gate_dst (N:=2) rfl ?_);refine box_event ?hg (N:=2) ?hd (cs:=#[.slice none 0 0,.slice none 0 0]) (t:=28) ?hr ?_;(case hd=>rfl);(case hg=>rfl);(case hr=>first | (go_simp;done) | (go_simp;rfl));intro gb628 hg w6 hbox hb;have n0_:=Aside0.mk (blk_below (g:=gb627) (o:=.cells #[.slice A0_0 l0_0.length c0_0,.slice A0_1 l0_1.length c0_1] 28 (0,0)) (by (with_reducible repeat (first | refine blk_drewN ?_ _ | refine blk_drew ?_ | refine blk_alloc ?_ _));exact BK627.out) hb);have n1_:=Aside0.mk (below_step (by repeat (with_reducible first | exact HB.out | apply below_alloc | apply pw_below_drewN | apply below_drew1 | refine below_set ?_ GE627.out)) hb);have n2_:=Aside0.mk (hbox);have n3_:=Aside0.mk ((by rw [hg];exact (below_size (by repeat (with_reducible first | exact HB.out | apply below_alloc | apply pw_below_drewN | apply below_drew1 | refine below_set ?_ GE627.out))):w.heap.size ≤ gb628));have n4_:=Aside0.mk ((by rw [hg];exact (below_size (by repeat (with_reducible first | exact HB.out | apply below_alloc | apply pw_below_drewN | apply below_drew1 | refine below_set ?_ GE627.out))):w.heap.size ≤ gb628));have n5_:=Aside0.mk ((by rw [hg];exact Nat.ne_of_lt (blk_lt (g:=gb627) (o:=.cells #[.slice A0_0 l0_0.length c0_0,.slice A0_1 l0_1.length c0_1] 28 (0,0)) (by (with_reducible repeat (first | refine blk_drewN ?_ _ | refine blk_drew ?_ | refine blk_alloc ?_ _));exact BK627.out)):gb627 ≠ gb628));have n6_:=Aside0.mk ((by rw [hg];exact Nat.ne_of_gt (blk_lt (g:=gb627) (o:=.cells #[.slice A0_0 l0_0.length c0_0,.slice A0_1 l0_1.length c0_1] 28 (0,0)) (by (with_reducible repeat (first | refine blk_drewN ?_ _ | refine blk_drew ?_ | refine blk_alloc ?_ _));exact BK627.out)):gb628 ≠ gb627));clear BK627;clear HB;have BK627:=n0_;have HB:=n1_;have BK628:=n2_;have GW628:=n3_;have GE628:=n4_;have NB627_628:=n5_;have NB628_627:=n6_;clear n0_ n1_ n2_ n3_ n4_ n5_ n6_;clear hb hbox hg;have hnb7:=NB627_628.out;have hnc7:=NB628_627.out;have hcz8_0:w6.cell? ⟨gb627,0,none⟩ = some (.slice A0_0 l0_0.length c0_0):=(blk_cell BK627.out 0).trans rfl;have hcz8_1:w6.cell? ⟨gb627,1,none⟩ = some (.slice A0_1 l0_1.length c0_1):=(blk_cell BK627.out 1).trans rfl;have hfz8_0:=blk_frozen BK627.out 0;have hfz8_1:=blk_frozen BK627.out 1) | ((with_reducible refine gate_callee (f:=14) rfl ?_);refine goesL_ (some 10) rfl rfl Try.func14 (by kernel_rfl) rfl #[.agg #[.slice A0_0 l0_0.length c0_0,.slice A0_1 l0_1.length c0_1]] rfl (by (try simp only [List.map_toArray,List.map_cons,List.map_nil]);first | done | rfl | (simp only [List.length_drop,List.length_take];rfl)) ?_;(with_reducible refine (spec_ChancesOk.calls k _ _ l0_0 _ _ l0_1 true _ ?side1 ?side2 ?side3 ?side4 A2.out).mono ?_);(case side1=>repeat (first | exact (Kd.C_below HR0_0.out HB.out) | (with_reducible refine Kd.C_alloc ?_ _) | (with_reducible refine Kd.C_drewN ?_ _) | (with_reducible refine Kd.C_drew ?_)));(case side2=>exact HC0_0.out);(case side3=>repeat (first | exact (Kd.C_below HR0_1.out HB.out) | (with_reducible refine Kd.C_alloc ?_ _) | (with_reducible refine Kd.C_drewN ?_ _) | (with_reducible refine Kd.C_drew ?_)));(case side4=>exact HC0_1.out);rintro e w9 ⟨rfl,hb⟩;refine ⟨_,rfl,?_⟩;have n0_:=Aside0.mk (blk_below (g:=gb627) (o:=.cells #[.slice A0_0 l0_0.length c0_0,.slice A0_1 l0_1.length c0_1] 28 (0,0)) (by (with_reducible repeat (first | refine blk_drewN ?_ _ | refine blk_drew ?_ | refine blk_alloc ?_ _));exact BK627.out) hb);have n1_:=Aside0.mk (blk_below (g:=gb628) (o:=.cells #[.slice none 0 0,.slice none 0 0] 28 (0,0)) (by (with_reducible repeat (first | refine blk_drewN ?_ _ | refine blk_drew ?_ | refine blk_alloc ?_ _));exact BK628.out) hb);have n2_:=Aside0.mk (below_step (by repeat (with_reducible first | exact HB.out | apply below_alloc | apply pw_below_drewN | apply below_drew1 | refine below_set ?_ GE627.out | refine below_set ?_ GE628.out)) hb);clear BK627;clear BK628;clear HB;have BK627:=n0_;have BK628:=n1_;have HB:=n2_;clear n0_ n1_ n2_;(try clear hb);(try clear hb2);(try clear hk);(try clear hi);have hcz10_0:w9.cell? ⟨gb627,0,none⟩ = some (.slice A0_0 l0_0.length c0_0):=(blk_cell BK627.out 0).trans rfl;have hcz10_1:w9.cell? ⟨gb627,1,none⟩ = some (.slice A0_1 l0_1.length c0_1):=(blk_cell BK627.out 1).trans rfl;have hfz10_0:=blk_frozen BK627.out 0;have hfz10_1:=blk_frozen BK627.out 1) | ((with_reducible refine gate_callee (f:=56) rfl ?_);refine goesL_ (some 14) rfl rfl Try.func56 (by kernel_rfl) rfl #[.agg #[.slice A0_0 l0_0.length c0_0,.slice A0_1 l0_1.length c0_1]] rfl (by (try simp only [List.map_toArray,List.map_cons,List.map_nil]);first | done | rfl | (simp only [List.length_drop,List.length_take];rfl)) ?_;(with_reducible refine (spec_l18Classes.calls k _ _ l0_0 _ _ l0_1 t630 _ ?side1 ?side2 ?side3 ?side4 A4.out).mono ?_);(case side1=>repeat (first | exact (Kd.C_below HR0_0.out HB.out) | (with_reducible refine Kd.C_alloc ?_ _) | (with_reducible refine Kd.C_drewN ?_ _) | (with_reducible refine Kd.C_drew ?_)));(case side2=>exact HC0_0.out);(case side3=>repeat (first | exact (Kd.C_below HR0_1.out HB.out) | (with_reducible refine Kd.C_alloc ?_ _) | (with_reducible refine Kd.C_drewN ?_ _) | (with_reducible refine Kd.C_drew ?_)));(case side4=>exact HC0_1.out);rintro e w11 ⟨v631,rfl,ho0,hb⟩;refine ⟨_,rfl,?_⟩;have n0_:=Aside0.mk (Kd.R_lower (Kd.R_newM (M:=fun k_=>(w.heap.size ≤ k_)) ho0 (below_size (by repeat (with_reducible first | exact HB.out | apply below_alloc | apply pw_below_drewN | apply below_drew1 | refine below_set ?_ GE627.out | refine below_set ?_ GE628.out))) (fun k_ h_=>h_)) (below_size (by repeat (with_reducible first | exact HB.out | apply below_alloc | apply pw_below_drewN | apply below_drew1 | refine below_set ?_ GE627.out | refine below_set ?_ GE628.out))));have n1_:=Aside0.mk (blk_below (g:=gb627) (o:=.cells #[.slice A0_0 l0_0.length c0_0,.slice A0_1 l0_1.length c0_1] 28 (0,0)) (by (with_reducible repeat (first | refine blk_drewN ?_ _ | refine blk_drew ?_ | refine blk_alloc ?_ _));exact BK627.out) hb);have n2_:=Aside0.mk (blk_below (g:=gb628) (o:=.cells #[.slice none 0 0,.slice none 0 0] 28 (0,0)) (by (with_reducible repeat (first | refine blk_drewN ?_ _ | refine blk_drew ?_ | refine blk_alloc ?_ _));exact BK628.out) hb);have n3_:=Aside0.mk (below_step (by repeat (with_reducible first | exact HB.out | apply below_alloc | apply pw_below_drewN | apply below_drew1 | refine below_set ?_ GE627.out | refine below_set ?_ GE628.out)) hb);clear BK627;clear BK628;clear HB;have HO632:=n0_;have BK627:=n1_;have BK628:=n2_;have HB:=n3_;clear n0_ n1_ n2_ n3_;(try clear hb);(try clear hb2);(try clear hk);(try clear hi);(try clear ho0)) | ((with_reducible refine gate_dst (N:=5) rfl ?_);refine box_event ?hg (N:=5) ?hd (cs:=#[.slice none 0 0,.slice none 0 0]) (t:=28) ?hr ?_;(case hd=>rfl);(case hg=>rfl);(case hr=>first | (go_simp;done) | (go_simp;rfl));intro gb633 hg w12 hbox hb;have n0_:=Aside0.mk (Kd.R_below (by (with_reducible repeat (first | apply Kd.R_alloc | apply Kd.R_drewN | apply Kd.R_drew));exact HO632.out) hb);have n1_:=Aside0.mk (blk_below (g:=gb627) (o:=.cells #[.slice A0_0 l0_0.length c0_0,.slice A0_1 l0_1.length c0_1] 28 (0,0)) (by (with_reducible repeat (first | refine blk_drewN ?_ _ | refine blk_drew ?_ | refine blk_alloc ?_ _));exact BK627.out) hb);have n2_:=Aside0.mk (blk_below (g:=gb628) (o:=.cells #[.slice none 0 0,.slice none 0 0] 28 (0,0)) (by (with_reducible repeat (first | refine blk_drewN ?_ _ | refine blk_drew ?_ | refine blk_alloc ?_ _));exact BK628.out) hb);have n3_:=Aside0.mk (below_step (by repeat (with_reducible first | exact HB.out | apply below_alloc | apply pw_below_drewN | apply below_drew1 | refine below_set ?_ GE627.out | refine below_set ?_ GE628.out)) hb);have n4_:=Aside0.mk (hbox);have n5_:=Aside0.mk ((by rw [hg];exact (below_size (by repeat (with_reducible first | exact HB.out | apply below_alloc | apply pw_below_drewN | apply below_drew1 | refine below_set ?_ GE627.out | refine below_set ?_ GE628.out))):w.heap.size ≤ gb633));have n6_:=Aside0.mk ((by rw [hg];exact (below_size (by repeat (with_reducible first | exact HB.out | apply below_alloc | apply pw_below_drewN | apply below_drew1 | refine below_set ?_ GE627.out | refine below_set ?_ GE628.out))):w.heap.size ≤ gb633));have n7_:=Aside0.mk ((by rw [hg];exact Nat.ne_of_lt (blk_lt (g:=gb627) (o:=.cells #[.slice A0_0 l0_0.length c0_0,.slice A0_1 l0_1.length c0_1] 28 (0,0)) (by (with_reducible repeat (first | refine blk_drewN ?_ _ | refine blk_drew ?_ | refine blk_alloc ?_ _));exact BK627.out)):gb627 ≠ gb633));have n8_:=Aside0.mk ((by rw [hg];exact Nat.ne_of_gt (blk_lt (g:=gb627) (o:=.cells #[.slice A0_0 l0_0.length c0_0,.slice A0_1 l0_1.length c0_1] 28 (0,0)) (by (with_reducible repeat (first | refine blk_drewN ?_ _ | refine blk_drew ?_ | refine blk_alloc ?_ _));exact BK627.out)):gb633 ≠ gb627));have n9_:=Aside0.mk ((by rw [hg];exact Nat.ne_of_lt (blk_lt (g:=gb628) (o:=.cells #[.slice none 0 0,.slice none 0 0] 28 (0,0)) (by (with_reducible repeat (first | refine blk_drewN ?_ _ | refine blk_drew ?_ | refine blk_alloc ?_ _));exact BK628.out)):gb628 ≠ gb633));have n10_:=Aside0.mk ((by rw [hg];exact Nat.ne_of_gt (blk_lt (g:=gb628) (o:=.cells #[.slice none 0 0,.slice none 0 0] 28 (0,0)) (by (with_reducible repeat (first | refine blk_drewN ?_ _ | refine blk_drew ?_ | refine blk_alloc ?_ _));exact BK628.out)):gb633 ≠ gb628));clear HO632;clear BK627;clear BK628;clear HB;have HO632:=n0_;have BK627:=n1_;have BK628:=n2_;have HB:=n3_;have BK633:=n4_;have GW633:=n5_;have GE633:=n6_;have NB627_633:=n7_;have NB633_627:=n8_;have NB628_633:=n9_;have NB633_628:=n10_;clear n0_ n1_ n2_ n3_ n4_ n5_ n6_ n7_ n8_ n9_ n10_;clear hb hbox hg;have hnb13:=NB633_627.out;have hnc13:=NB627_633.out;have hnb14:=NB633_628.out;have hnc14:=NB628_633.out;have hcz15_0:w12.cell? ⟨gb633,0,none⟩ = some (.slice none 0 0):=(blk_cell BK633.out 0).trans rfl;have hcz15_1:w12.cell? ⟨gb633,1,none⟩ = some (.slice none 0 0):=(blk_cell BK633.out 1).trans rfl;have hfz15_0:=blk_frozen BK633.out 0;have hfz15_1:=blk_frozen BK633.out 1))
  go_loopg [6] k (fun kq v6 w'=>∃ (x6_1:Int) (x634000_1:List Int) (x634001_1:List (List Int)) (u634000:Value) (u634001:Value),v6 = .int .i64 x6_1∧Aside0 (spec_ChancesFold.l0 kq t630 x6_1 l0_0 l0_1 x634000_1 x634001_1 = some (r1,r2,r3))∧Aside0 (kq ≤ k)∧Aside0 (Kd.R (Kd.int .i64) 3 w' w.heap.size (fun k_=>(w.heap.size ≤ k_)∧some k_ ≠ (u634000:Value).ownBlock) v631 t630)∧Aside0 (Kd.R (Kd.int .i64) 3 w' w.heap.size (fun k_=>(w.heap.size ≤ k_)∧some k_ ≠ (v631:Value).ownBlock) u634000 x634000_1)∧Aside0 (Kd.N (Kd.slice 3 (Kd.int .i64)) 22 w' w.heap.size (fun k_=>(w.heap.size ≤ k_)∧some k_ ≠ (v631:Value).ownBlock∧some k_ ≠ (u634000:Value).ownBlock∧k_ ≠ gb627∧k_ ≠ gb628∧k_ ≠ gb633) u634001 x634001_1)∧Aside0 (w'.heap[gb627]? = some (.cells #[(.slice A0_0 l0_0.length c0_0),(.slice A0_1 l0_1.length c0_1)] 28 (0,0)))∧Aside0 (w'.heap[gb628]? = some (.cells #[(.slice none 0 0),(.slice none 0 0)] 28 (0,0)))∧Aside0 (w'.heap[gb633]? = some (.cells #[u634000,u634001] 28 (0,0)))∧Aside0 (Below w.heap.size w w'))
  case atStart=>exact ⟨(0),(([]:List Int)),(([]:List (List Int))),(.slice none 0 0),(.slice none 0 0),(by first | rfl | (simp;done) | (simp [*];done)),H',⟨Nat.le_refl _⟩,⟨by (with_reducible repeat (first | apply Kd.R_alloc | apply Kd.R_drewN | apply Kd.R_drew));exact Kd.R_mono (Kd.R_far (p:=⟨gb633,1,none⟩) (Kd.R_far (p:=⟨gb633,0,none⟩) (Kd.R_types HO632.out BK633.out (by decide)) (fun _ hk=>hk.2) (.slice none 0 0)) (fun _ hk=>hk.2) (.slice none 0 0)) (fun _ hk=>⟨hk.1.1,(by simp [Value.ownBlock])⟩)⟩,⟨by first | exact Kd.R_nil _ _ _ _ _ | exact Kd.N_nil _ _ _ _ _ | exact Kd.V_nil _ _ _ _ _ | exact Kd.Q_nil _ _ _ _ _ | exact Kd.S_nil _ _ _ _ _⟩,⟨by first | exact Kd.S_nil _ _ _ _ _ | exact Kd.N_nil _ _ _ _ _ | exact Kd.V_nil _ _ _ _ _ | exact Kd.Q_nil _ _ _ _ _ | exact Kd.R_nil _ _ _ _ _⟩,⟨by (with_reducible repeat (first | refine blk_drewN ?_ _ | refine blk_drew ?_ | refine blk_alloc ?_ _));refine blk_far ?_ NB627_633.out _;(with_reducible repeat (first | refine blk_drewN ?_ _ | refine blk_drew ?_ | refine blk_alloc ?_ _));refine blk_far ?_ NB627_633.out _;(with_reducible repeat (first | refine blk_drewN ?_ _ | refine blk_drew ?_ | refine blk_alloc ?_ _));exact BK627.out⟩,⟨by (with_reducible repeat (first | refine blk_drewN ?_ _ | refine blk_drew ?_ | refine blk_alloc ?_ _));refine blk_far ?_ NB628_633.out _;(with_reducible repeat (first | refine blk_drewN ?_ _ | refine blk_drew ?_ | refine blk_alloc ?_ _));refine blk_far ?_ NB628_633.out _;(with_reducible repeat (first | refine blk_drewN ?_ _ | refine blk_drew ?_ | refine blk_alloc ?_ _));exact BK628.out⟩,⟨by (with_reducible repeat (first | refine blk_drewN ?_ _ | refine blk_drew ?_ | refine blk_alloc ?_ _));refine blk_put (cs:=#[.slice none 0 0,.slice none 0 0]) ?_ 1 _ rfl;(with_reducible repeat (first | refine blk_drewN ?_ _ | refine blk_drew ?_ | refine blk_alloc ?_ _));refine blk_put (cs:=#[.slice none 0 0,.slice none 0 0]) ?_ 0 _ rfl;(with_reducible repeat (first | refine blk_drewN ?_ _ | refine blk_drew ?_ | refine blk_alloc ?_ _));exact BK633.out⟩,⟨by repeat (with_reducible first | exact HB.out | apply below_alloc | apply pw_below_drewN | apply below_drew1 | refine below_set ?_ GE627.out | refine below_set ?_ GE628.out | refine below_set ?_ GE633.out)⟩⟩
  case round =>
   clear H'
   try clear c1
   try clear p2
   try clear c3
   try clear c5
   try clear c7
   try clear c13
   try clear c14
   try clear hcz10_0
   try clear hcz10_1
   try clear hcz15_0
   try clear hcz15_1
   try clear hcz8_0
   try clear hcz8_1
   try clear hfz10_0
   try clear hfz10_1
   try clear hfz15_0
   try clear hfz15_1
   try clear hfz8_0
   try clear hfz8_1
   obtain ⟨x6_1,x634000_1,x634001_1,u634000,u634001,rfl,HA,HK1,HO_4,HO_634000,HO_634001,BK627,BK628,BK633,HB⟩:=hrel
   cases gk with
   | zero=>exact absurd HA.out (by simp [spec_ChancesFold.l0])
   | succ k1 =>
    have H:=HA.out
    clear HA
    simp only [spec_ChancesFold.l0] at H
    by_cases c16:x6_1 < (t630.length:Int)
    ·rw [if_pos c16] at H
     have c16b0:decide (x6_1 < (t630.length:Int)) = true:=decide_eq_true c16
     clear c16
     by_cases c17:0 ≤ x6_1
     ·rw [if_pos c17] at H
      have c17b0:decide (0 ≤ x6_1) = true:=decide_eq_true c17
      clear c17
      by_cases c18:(rd t630 x6_1) = x6_1
      ·rw [if_pos c18] at H
       have c18b0:((rd t630 x6_1) == x6_1) = true:=beq_iff_eq.mpr c18
       have c18b1:((rd t630 x6_1) != x6_1) = false:=bne_eq_false_iff_eq.mpr c18
       clear c18
       obtain ⟨y635,hy635⟩:∃ y_:List Int,y_ = (([]:List Int)):=⟨_,rfl⟩
       replace H:(spec_ChancesFold.l1 k1 t630 x6_1 y635 0 l0_0 l0_1 x634000_1 x634001_1) = some (r1,r2,r3):=by rw [hy635];exact H
       have Ny635:=Aside0.mk hy635
       clear hy635
       have H':=Aside0.mk H
       clear H
       obtain ⟨Ao19,co19,eo19⟩:=Kd.R_slice HO_4.out
       subst eo19
       have p634:0 ≤ (x6_1:Int):=of_decide_eq_true (by assumption)
       have q634:x6_1 < (t630.length:Int):=of_decide_eq_true (by assumption)
       obtain ⟨ad634,e634,hx634_0⟩:=Kd.at_int (Kd.R_reads' HO_4.out).2.2 x6_1 p634 q634
       cases e634
       replace p634:=eq_true p634
       replace q634:=eq_true q634
       go_wp2_with (first | ((with_reducible refine gate_dst (N:=28) rfl ?_);refine Kd.R_lit (Kd.int .i64) _ 3 ?hg (N:=28) ?hd (xs:=([]:List Int)) (inner:=[]) (ok:=fun _=>True) (okp:=fun _=>True) ?hr ?hp (fun _ hk=>hk) trivial (Below.refl _ _) (Nat.le_refl _) (by simp) ?_;(case hd=>rfl);(case hg=>rfl);(case hr=>first | (go_simp;done) | (go_simp;rfl));(case hp=>exact (Reps.none _ _));intro v636 w20 ho21 hb hg_ hnew_;clear hg_ hnew_;(first | rw [← Ny635.out] at ho21 | (simp only [Int.reduceToNat] at ho21;rw [← Ny635.out] at ho21));have n0_:=Aside0.mk (Kd.R_elder' (by exact HO_4.out) (Kd.R_base ho21) hb);have n1_:=Aside0.mk (Kd.R_elder' (by exact HO_634000.out) (Kd.R_base ho21) hb);have n2_:=Aside0.mk (Kd.N_elder' (by exact HO_634001.out) (Kd.R_base ho21) hb);have n3_:=Aside0.mk (Kd.R_lower (Kd.R_new' (Kd.R_new' (Kd.R_newM (M:=fun k_=>(w.heap.size ≤ k_)) ho21 (below_size (by exact HB.out)) (fun k_ h_=>h_)) (Kd.R_lt (by exact HO_4.out))) (Kd.R_lt (by exact HO_634000.out))) (below_size (by exact HB.out)));have n4_:=Aside0.mk (blk_below (g:=gb627) (o:=.cells #[.slice A0_0 l0_0.length c0_0,.slice A0_1 l0_1.length c0_1] 28 (0,0)) (by exact BK627.out) hb);have n5_:=Aside0.mk (blk_below (g:=gb628) (o:=.cells #[.slice none 0 0,.slice none 0 0] 28 (0,0)) (by exact BK628.out) hb);have n6_:=Aside0.mk (blk_below (g:=gb633) (o:=.cells #[u634000,u634001] 28 (0,0)) (by exact BK633.out) hb);have n7_:=Aside0.mk (below_step (by exact HB.out) hb);clear HO_4;clear HO_634000;clear HO_634001;clear BK627;clear BK628;clear BK633;clear HB;have HO_4:=n0_;have HO_634000:=n1_;have HO_634001:=n2_;have HO637:=n3_;have BK627:=n4_;have BK628:=n5_;have BK633:=n6_;have HB:=n7_;clear n0_ n1_ n2_ n3_ n4_ n5_ n6_ n7_;clear hb ho21))
       go_loopg [7,8] k1 (fun kq v7 v8 w'=>∃ (x7_2:List Int) (x8_2:Int),v8 = .int .i64 x8_2∧Aside0 (spec_ChancesFold.l1 kq t630 x6_1 x7_2 x8_2 l0_0 l0_1 x634000_1 x634001_1 = some (r1,r2,r3))∧Aside0 (kq ≤ k1)∧Aside0 (Kd.R (Kd.int .i64) 3 w' w.heap.size (fun k_=>(w.heap.size ≤ k_)∧some k_ ≠ (v7:Value).ownBlock∧some k_ ≠ (u634000:Value).ownBlock) (.slice (some ad634) t630.length co19) t630)∧Aside0 (Kd.R (Kd.int .i64) 3 w' w.heap.size (fun k_=>(w.heap.size ≤ k_)∧some k_ ≠ ((.slice (some ad634) t630.length co19):Value).ownBlock∧some k_ ≠ (u634000:Value).ownBlock) v7 x7_2)∧Aside0 (Kd.R (Kd.int .i64) 3 w' w.heap.size (fun k_=>(w.heap.size ≤ k_)∧some k_ ≠ ((.slice (some ad634) t630.length co19):Value).ownBlock∧some k_ ≠ (v7:Value).ownBlock) u634000 x634000_1)∧Aside0 (Kd.N (Kd.slice 3 (Kd.int .i64)) 22 w' w.heap.size (fun k_=>(w.heap.size ≤ k_)∧some k_ ≠ ((.slice (some ad634) t630.length co19):Value).ownBlock∧some k_ ≠ (v7:Value).ownBlock∧some k_ ≠ (u634000:Value).ownBlock∧k_ ≠ gb627∧k_ ≠ gb628∧k_ ≠ gb633) u634001 x634001_1)∧Aside0 (w'.heap[gb627]? = some (.cells #[(.slice A0_0 l0_0.length c0_0),(.slice A0_1 l0_1.length c0_1)] 28 (0,0)))∧Aside0 (w'.heap[gb628]? = some (.cells #[(.slice none 0 0),(.slice none 0 0)] 28 (0,0)))∧Aside0 (w'.heap[gb633]? = some (.cells #[u634000,u634001] 28 (0,0)))∧Aside0 (Below w.heap.size w w'))
       case atStart=>exact ⟨(y635),(0),(by first | rfl | (simp;done) | (simp [*];done)),H',⟨Nat.le_refl _⟩,⟨by exact Kd.R_mono HO_4.out (fun _ hk=>⟨hk.1.1,⟨hk.2,hk.1.2⟩⟩)⟩,⟨by exact Kd.R_mono HO637.out (fun _ hk=>⟨hk.1.1.1,⟨hk.1.2,hk.2⟩⟩)⟩,⟨by exact Kd.R_mono HO_634000.out (fun _ hk=>⟨hk.1.1,⟨hk.1.2,hk.2⟩⟩)⟩,⟨by exact Kd.N_mono HO_634001.out (fun _ hk=>⟨hk.1.1,⟨hk.1.2.1,⟨hk.2,⟨hk.1.2.2.1,⟨hk.1.2.2.2.1,⟨hk.1.2.2.2.2.1,hk.1.2.2.2.2.2⟩⟩⟩⟩⟩⟩)⟩,⟨by exact BK627.out⟩,⟨by exact BK628.out⟩,⟨by exact BK633.out⟩,⟨by exact HB.out⟩⟩
       case round =>
        clear H'
        try clear c1
        try clear p2
        try clear c3
        try clear c5
        try clear p6
        try clear q6
        try clear hx6
        try clear c7
        try clear c13
        try clear c14
        try clear c16
        try clear c16b0
        try clear c17
        try clear c17b0
        try clear c18
        try clear c18b0
        try clear c18b1
        try clear hcz10_0
        try clear hcz10_1
        try clear hcz15_0
        try clear hcz15_1
        try clear hcz8_0
        try clear hcz8_1
        try clear hfz10_0
        try clear hfz10_1
        try clear hfz15_0
        try clear hfz15_1
        try clear hfz8_0
        try clear hfz8_1
        try clear hx634_0
        try clear p2
        try clear p634
        try clear q634
        obtain ⟨x7_2,x8_2,rfl,HA,HK2,HO_4,HO_7,HO_634000,HO_634001,BK627,BK628,BK633,HB⟩:=hrel
        cases gk with
        | zero=>exact absurd HA.out (by simp [spec_ChancesFold.l1])
        | succ k2 =>
         have H:=HA.out
         clear HA
         simp only [spec_ChancesFold.l1] at H
         by_cases c22:x8_2 < (t630.length:Int)
         ·rw [if_pos c22] at H
          have c22b0:decide (x8_2 < (t630.length:Int)) = true:=decide_eq_true c22
          clear c22
          by_cases c23:0 ≤ x8_2
          ·rw [if_pos c23] at H
           have c23b0:decide (0 ≤ x8_2) = true:=decide_eq_true c23
           clear c23
           by_cases c24:(rd t630 x8_2) = x8_2
           ·rw [if_pos c24] at H
            have c24b0:((rd t630 x8_2) == x8_2) = true:=beq_iff_eq.mpr c24
            have c24b1:((rd t630 x8_2) != x8_2) = false:=bne_eq_false_iff_eq.mpr c24
            clear c24
            replace H:=Option.bind_eq_some_iff.mp H
            obtain ⟨t639,A250,H⟩:=H
            replace H:(if x7_2.length < 17592186044416 then (spec_ChancesFold.l1 k2 t630 x6_1 (x7_2 ++ [t639]) (wrap64 (x8_2 + 1)) l0_0 l0_1 x634000_1 x634001_1) else (none)) = some (r1,r2,r3):=H
            have A25:=Aside0.mk A250
            clear A250
            by_cases c26:x7_2.length < 17592186044416
            ·rw [if_pos c26] at H
             have LMc26:=Aside0.mk c26
             clear c26
             obtain ⟨y640,hy640⟩:∃ y_:List Int,y_ = (x7_2 ++ [t639]):=⟨_,rfl⟩
             replace H:(spec_ChancesFold.l1 k2 t630 x6_1 y640 (wrap64 (x8_2 + 1)) l0_0 l0_1 x634000_1 x634001_1) = some (r1,r2,r3):=by rw [hy640];exact H
             have Ny640:=Aside0.mk hy640
             clear hy640
             have H':=Aside0.mk H
             clear H
             have p638:0 ≤ (x8_2:Int):=of_decide_eq_true (by assumption)
             have q638:x8_2 < (t630.length:Int):=of_decide_eq_true (by assumption)
             obtain ⟨ad638,e638,hx638_0⟩:=Kd.at_int (Kd.R_reads' HO_4.out).2.2 x8_2 p638 q638
             obtain rfl:ad634 = ad638:=(by injection e638)
             replace p638:=eq_true p638
             replace q638:=eq_true q638
             have hnb27:=NB627_628.out
             have hnc27:=NB628_627.out
             have hnb28:=NB627_633.out
             have hnc28:=NB633_627.out
             have hcz29_0:wr.cell? ⟨gb627,0,none⟩ = some (.slice A0_0 l0_0.length c0_0):=(blk_cell BK627.out 0).trans rfl
             have hcz29_1:wr.cell? ⟨gb627,1,none⟩ = some (.slice A0_1 l0_1.length c0_1):=(blk_cell BK627.out 1).trans rfl
             have hfz29_0:=blk_frozen BK627.out 0
             have hfz29_1:=blk_frozen BK627.out 1
             go_wp2_with (first | ((with_reducible refine gate_callee (f:=57) rfl ?_);refine goesL_ (some 46) rfl rfl Try.func57 (by kernel_rfl) rfl #[.agg #[.slice A0_0 l0_0.length c0_0,.slice A0_1 l0_1.length c0_1],.int .i64 x6_1,.slice (some ad634) t630.length co19,.int .i64 x8_2] rfl (by (try simp only [List.map_toArray,List.map_cons,List.map_nil]);first | done | rfl | (simp only [List.length_drop,List.length_take];rfl)) ?_;(with_reducible refine (spec_l18Into.calls k2 _ _ l0_0 _ _ l0_1 x6_1 _ _ t630 x8_2 t639 _ ?side1 ?side2 ?side3 ?side4 ?side5 ?side6 A25.out).mono ?_);(case side1=>repeat (first | exact (Kd.C_below HR0_0.out HB.out) | (with_reducible refine Kd.C_alloc ?_ _) | (with_reducible refine Kd.C_drewN ?_ _) | (with_reducible refine Kd.C_drew ?_)));(case side2=>exact HC0_0.out);(case side3=>repeat (first | exact (Kd.C_below HR0_1.out HB.out) | (with_reducible refine Kd.C_alloc ?_ _) | (with_reducible refine Kd.C_drewN ?_ _) | (with_reducible refine Kd.C_drew ?_)));(case side4=>exact HC0_1.out);(case side5=>repeat (first | exact (Kd.R_reads' HO_4.out).2.2 | (with_reducible refine Kd.C_alloc ?_ _) | (with_reducible refine Kd.C_drewN ?_ _) | (with_reducible refine Kd.C_drew ?_)));(case side6=>exact (Kd.R_reads' HO_4.out).2.1);rintro e w30 ⟨rfl,hb⟩;refine ⟨_,rfl,?_⟩;have n0_:=Aside0.mk (Kd.R_below (by (with_reducible repeat (first | apply Kd.R_alloc | apply Kd.R_drewN | apply Kd.R_drew));exact HO_4.out) hb);have n1_:=Aside0.mk (Kd.R_below (by (with_reducible repeat (first | apply Kd.R_alloc | apply Kd.R_drewN | apply Kd.R_drew));exact HO_7.out) hb);have n2_:=Aside0.mk (Kd.R_below (by (with_reducible repeat (first | apply Kd.R_alloc | apply Kd.R_drewN | apply Kd.R_drew));exact HO_634000.out) hb);have n3_:=Aside0.mk (Kd.N_below (by (with_reducible repeat (first | apply Kd.N_alloc | apply Kd.N_drewN | apply Kd.N_drew));exact HO_634001.out) hb);have n4_:=Aside0.mk (blk_below (g:=gb627) (o:=.cells #[.slice A0_0 l0_0.length c0_0,.slice A0_1 l0_1.length c0_1] 28 (0,0)) (by (with_reducible repeat (first | refine blk_drewN ?_ _ | refine blk_drew ?_ | refine blk_alloc ?_ _));exact BK627.out) hb);have n5_:=Aside0.mk (blk_below (g:=gb628) (o:=.cells #[.slice none 0 0,.slice none 0 0] 28 (0,0)) (by (with_reducible repeat (first | refine blk_drewN ?_ _ | refine blk_drew ?_ | refine blk_alloc ?_ _));exact BK628.out) hb);have n6_:=Aside0.mk (blk_below (g:=gb633) (o:=.cells #[u634000,u634001] 28 (0,0)) (by (with_reducible repeat (first | refine blk_drewN ?_ _ | refine blk_drew ?_ | refine blk_alloc ?_ _));exact BK633.out) hb);have n7_:=Aside0.mk (below_step (by repeat (with_reducible first | exact HB.out | apply below_alloc | apply pw_below_drewN | apply below_drew1 | refine below_set ?_ GE627.out | refine below_set ?_ GE628.out | refine below_set ?_ GE633.out)) hb);clear HO_4;clear HO_7;clear HO_634000;clear HO_634001;clear BK627;clear BK628;clear BK633;clear HB;have HO_4:=n0_;have HO_7:=n1_;have HO_634000:=n2_;have HO_634001:=n3_;have BK627:=n4_;have BK628:=n5_;have BK633:=n6_;have HB:=n7_;clear n0_ n1_ n2_ n3_ n4_ n5_ n6_ n7_;(try clear hb);(try clear hb2);(try clear hk);(try clear hi)) | ((with_reducible refine gate_builtin (b:=.append) (xs:=#[.tmp 41,.tmp 47]) rfl ?_);at_builtin;refine Kd.R_append (Kd.int .i64) (w0:=w) w.heap.size rfl (.tmp 41) (.tmp 47) 22 3 (.int .i64 0) 8 rfl Try.underlying22 info3 rfl (by decide) (by omega) u7 x7_2 t639 [.int .i64 t639] (fun k_=>(w.heap.size ≤ k_)∧some k_ ≠ (.slice (some ad634) t630.length co19:Value).ownBlock∧some k_ ≠ (u634000:Value).ownBlock) (fun _=>False) rfl rfl ?aP (fun _ hk=>hk.elim) ?aF ?aO ?aB ?aS ?aL ?_;(case aP=>exact rfl);(case aB=>exact (by repeat (with_reducible first | exact HB.out | apply below_alloc | apply pw_below_drewN | apply below_drew1 | refine below_set ?_ GE627.out | refine below_set ?_ GE628.out | refine below_set ?_ GE633.out)));(case aF=>exact (fun k_ hk=>⟨(Nat.le_trans (below_size (by repeat (with_reducible first | exact HB.out | apply below_alloc | apply pw_below_drewN | apply below_drew1 | refine below_set ?_ GE627.out | refine below_set ?_ GE628.out | refine below_set ?_ GE633.out))) hk),Kd.fresh' (Kd.R_lt (by (with_reducible repeat (first | apply Kd.R_alloc | apply Kd.R_drewN | apply Kd.R_drew));exact HO_4.out)) k_ hk,Kd.fresh' (Kd.R_lt (by (with_reducible repeat (first | apply Kd.R_alloc | apply Kd.R_drewN | apply Kd.R_drew));exact HO_634000.out)) k_ hk⟩));(case aO=>exact (by (with_reducible repeat (first | apply Kd.R_alloc | apply Kd.R_drewN | apply Kd.R_drew));exact HO_7.out));(case aS=>exact (below_size (by repeat (with_reducible first | exact HB.out | apply below_alloc | apply pw_below_drewN | apply below_drew1 | refine below_set ?_ GE627.out | refine below_set ?_ GE628.out | refine below_set ?_ GE633.out))));(case aL=>have:=LMc26.out;omega);intro v641 w31 ho hb hg hat;rw [← Ny640.out] at ho;have n0_:=Aside0.mk (Kd.R_after (ok:=(fun k_=>(w.heap.size ≤ k_)∧some k_ ≠ (u634000:Value).ownBlock)) (by (with_reducible repeat (first | apply Kd.R_alloc | apply Kd.R_drewN | apply Kd.R_drew));exact Kd.R_mono HO_4.out (fun _ hk=>⟨⟨hk.1,hk.2.2⟩,hk.2.1⟩)) hg hat);have n1_:=Aside0.mk (Kd.R_after (ok:=(fun k_=>(w.heap.size ≤ k_)∧some k_ ≠ (.slice (some ad634) t630.length co19:Value).ownBlock)) (by (with_reducible repeat (first | apply Kd.R_alloc | apply Kd.R_drewN | apply Kd.R_drew));exact Kd.R_mono HO_634000.out (fun _ hk=>⟨⟨hk.1,hk.2.1⟩,hk.2.2⟩)) hg hat);have n2_:=Aside0.mk (Kd.N_afterv (ok:=(fun k_=>(w.heap.size ≤ k_)∧some k_ ≠ (.slice (some ad634) t630.length co19:Value).ownBlock∧some k_ ≠ (u634000:Value).ownBlock∧k_ ≠ gb627∧k_ ≠ gb628∧k_ ≠ gb633)) (by (with_reducible repeat (first | apply Kd.N_alloc | apply Kd.N_drewN | apply Kd.N_drew));exact Kd.N_mono HO_634001.out (fun _ hk=>⟨⟨hk.1,⟨hk.2.1,⟨hk.2.2.2.1,⟨hk.2.2.2.2.1,⟨hk.2.2.2.2.2.1,hk.2.2.2.2.2.2⟩⟩⟩⟩⟩,hk.2.2.1⟩)) hg hat);have n3_:=Aside0.mk (blk_grown (g:=gb627) (o:=.cells #[.slice A0_0 l0_0.length c0_0,.slice A0_1 l0_1.length c0_1] 28 (0,0)) (by (with_reducible repeat (first | refine blk_drewN ?_ _ | refine blk_drew ?_ | refine blk_alloc ?_ _));exact BK627.out) hg (Kd.R_ne HO_7.out BK627.out (by decide)));have n4_:=Aside0.mk (blk_grown (g:=gb628) (o:=.cells #[.slice none 0 0,.slice none 0 0] 28 (0,0)) (by (with_reducible repeat (first | refine blk_drewN ?_ _ | refine blk_drew ?_ | refine blk_alloc ?_ _));exact BK628.out) hg (Kd.R_ne HO_7.out BK628.out (by decide)));have n5_:=Aside0.mk (blk_grown (g:=gb633) (o:=.cells #[u634000,u634001] 28 (0,0)) (by (with_reducible repeat (first | refine blk_drewN ?_ _ | refine blk_drew ?_ | refine blk_alloc ?_ _));exact BK633.out) hg (Kd.R_ne HO_7.out BK633.out (by decide)));have n6_:=Aside0.mk (hb);have n7_:=Aside0.mk (ho);clear HO_4;clear HO_634000;clear HO_634001;clear BK627;clear BK628;clear BK633;clear HB;clear HO_7;have HO_4:=n0_;have HO_634000:=n1_;have HO_634001:=n2_;have BK627:=n3_;have BK628:=n4_;have BK633:=n5_;have HB:=n6_;have HO642:=n7_;clear n0_ n1_ n2_ n3_ n4_ n5_ n6_ n7_;clear ho hb hg hat))
             go_roundg k2
             case measure=>have:=HK1.out;have:=HK2.out;omega
             case rel=>exact ⟨(y640),(wrap64 (x8_2 + 1)),(by first | rfl | (simp;done) | (simp [*];done)),H',⟨by have:=HK1.out;have:=HK2.out;omega⟩,⟨by exact Kd.R_mono HO_4.out (fun _ hk=>⟨hk.1.1,⟨hk.2,hk.1.2⟩⟩)⟩,⟨by exact HO642.out⟩,⟨by exact Kd.R_mono HO_634000.out (fun _ hk=>⟨hk.1.1,⟨hk.1.2,hk.2⟩⟩)⟩,⟨by exact Kd.N_mono HO_634001.out (fun _ hk=>⟨hk.1.1,⟨hk.1.2.1,⟨hk.2,⟨hk.1.2.2.1,⟨hk.1.2.2.2.1,⟨hk.1.2.2.2.2.1,hk.1.2.2.2.2.2⟩⟩⟩⟩⟩⟩)⟩,⟨by exact BK627.out⟩,⟨by exact BK628.out⟩,⟨by exact BK633.out⟩,⟨by exact HB.out⟩⟩
            ·rw [if_neg c26] at H
             exact absurd H (by simp)
           ·rw [if_neg c24] at H
            have c24b0:((rd t630 x8_2) == x8_2) = false:=beq_eq_false_iff_ne.mpr c24
            have c24b1:((rd t630 x8_2) != x8_2) = true:=bne_iff_ne.mpr c24
            have H':=Aside0.mk H
            clear H
            have p638:0 ≤ (x8_2:Int):=of_decide_eq_true (by assumption)
            have q638:x8_2 < (t630.length:Int):=of_decide_eq_true (by assumption)
            obtain ⟨ad638,e638,hx638_0⟩:=Kd.at_int (Kd.R_reads' HO_4.out).2.2 x8_2 p638 q638
            obtain rfl:ad634 = ad638:=(by injection e638)
            replace p638:=eq_true p638
            replace q638:=eq_true q638
            go_wp2
            go_roundg k2
            case measure=>have:=HK1.out;have:=HK2.out;omega
            case rel=>exact ⟨(x7_2),(wrap64 (x8_2 + 1)),(by first | rfl | (simp;done) | (simp [*];done)),H',⟨by have:=HK1.out;have:=HK2.out;omega⟩,⟨by exact HO_4.out⟩,⟨by exact HO_7.out⟩,⟨by exact HO_634000.out⟩,⟨by exact HO_634001.out⟩,⟨by exact BK627.out⟩,⟨by exact BK628.out⟩,⟨by exact BK633.out⟩,⟨by exact HB.out⟩⟩
          ·rw [if_neg c23] at H
           exact absurd H (by simp)
         ·rw [if_neg c22] at H
          have c22b0:decide (x8_2 < (t630.length:Int)) = false:=decide_eq_false c22
          clear c22
          by_cases c32:0 ≤ x6_1
          ·rw [if_pos c32] at H
           have c32b0:decide (0 ≤ x6_1) = true:=decide_eq_true c32
           clear c32
           by_cases c33:x6_1 < (l0_0.length:Int)
           ·rw [if_pos c33] at H
            have c33b0:decide (x6_1 < (l0_0.length:Int)) = true:=decide_eq_true c33
            clear c33
            by_cases c34:x634000_1.length < 17592186044416
            ·rw [if_pos c34] at H
             have LMc34:=Aside0.mk c34
             clear c34
             obtain ⟨y644,hy644⟩:∃ y_:List Int,y_ = (x634000_1 ++ [rd l0_0 x6_1]):=⟨_,rfl⟩
             replace H:(if x634001_1.length < 5864062014805 then (spec_ChancesFold.l0 k2 t630 (wrap64 (x6_1 + 1)) l0_0 l0_1 y644 (x634001_1 ++ [x7_2])) else (none)) = some (r1,r2,r3):=by rw [hy644];exact H
             have Ny644:=Aside0.mk hy644
             clear hy644
             by_cases c35:x634001_1.length < 5864062014805
             ·rw [if_pos c35] at H
              have LMc35:=Aside0.mk c35
              clear c35
              obtain ⟨y647,hy647⟩:∃ y_:List (List Int),y_ = (x634001_1 ++ [x7_2]):=⟨_,rfl⟩
              replace H:(spec_ChancesFold.l0 k2 t630 (wrap64 (x6_1 + 1)) l0_0 l0_1 y644 y647) = some (r1,r2,r3):=by rw [hy647];exact H
              have Ny647:=Aside0.mk hy647
              clear hy647
              have H':=Aside0.mk H
              clear H
              try go_wp2
              have n0_:=Aside0.mk (Kd.R_drew HO_4.out)
              have n1_:=Aside0.mk (Kd.R_drew HO_7.out)
              have n2_:=Aside0.mk (Kd.R_drew HO_634000.out)
              have n3_:=Aside0.mk (Kd.N_drew HO_634001.out)
              have n4_:=Aside0.mk (blk_drew BK627.out)
              have n5_:=Aside0.mk (blk_drew BK628.out)
              have n6_:=Aside0.mk (blk_drew BK633.out)
              have n7_:=Aside0.mk (below_drew1 HB.out)
              clear HO_4
              clear HO_7
              clear HO_634000
              clear HO_634001
              clear BK627
              clear BK628
              clear BK633
              clear HB
              have HO_4:=n0_
              have HO_7:=n1_
              have HO_634000:=n2_
              have HO_634001:=n3_
              have BK627:=n4_
              have BK628:=n5_
              have BK633:=n6_
              have HB:=n7_
              clear n0_ n1_ n2_ n3_ n4_ n5_ n6_ n7_
              have p643:0 ≤ (x6_1:Int):=of_decide_eq_true (by assumption)
              have q643:x6_1 < (l0_0.length:Int):=of_decide_eq_true (by assumption)
              obtain ⟨ad643,e643,hx643_0⟩:=Kd.at_int HR0_0.out x6_1 p643 q643
              have hw643_0:=hx643_0
              cases e643
              replace hx643_0:=(HB.out.cell (World.block_lt_of_cell? w _ hx643_0)).trans hx643_0
              replace p643:=eq_true p643
              replace q643:=eq_true q643
              refine start_ (n:=11) (S:=fun w'=>w'.cell? ⟨gb633,0,none⟩ = some (u634000)∧w'.cell? ⟨gb633,1,none⟩ = some (u634001)∧w'.cell? ⟨gb627,0,none⟩ = some (.slice (some ad643) l0_0.length c0_0)∧w'.cell? ⟨gb627,1,none⟩ = some (.slice A0_1 l0_1.length c0_1)∧w'.cell? (ad643.add (x6_1).toNat) = some (.int .i64 (rd l0_0 x6_1))) (ds:=[10]) #[false,false,false,false,false,false,false,false,false,false,false] (by kernel_rfl) rfl rfl ⟨(blk_cell BK633.out 0).trans rfl,(blk_cell BK633.out 1).trans rfl,(blk_cell BK627.out 0).trans rfl,(blk_cell BK627.out 1).trans rfl,((HB.out.cell (World.block_lt_of_cell? w _ hw643_0)).trans hw643_0)⟩ (fun hHeld=>?_);refine with_tabW spec_ChancesFold.tab15 spec_ChancesFold.bits15 (fun HT_ HW_=>?_)
              generalize wr.drew = w36 at HO_4 HO_7 HO_634000 HO_634001 BK627 BK628 BK633 HB hx643_0 hHeld ⊢
              refine pure_ (i:=0) (N:=some 49) (v:=?_) (a':=?_) #[true,false,false,false,false,false,false,false,false,false,false] rfl rfl (any_of HT_.out (by kernel_rfl)) (fun _ _ _ h=>h) (Or.inl ⟨by rfl,?_⟩) ?_ ?_
              rotate_left;·intro w';go_simp;with_reducible rfl
              rotate_left;·simp only [Act.put,List.setIfInBounds_toArray,List.set_cons_zero,List.set_cons_succ,i64_w,i32_w];rfl
              refine pure_ (i:=2) (N:=some 51) (v:=?_) (a':=?_) #[true,false,true,false,false,false,false,false,false,false,false] rfl rfl (any_of HT_.out (by kernel_rfl)) (fun _ _ _ h=>h) (Or.inl ⟨by rfl,?_⟩) ?_ ?_
              rotate_left;·intro w';go_simp;with_reducible rfl
              rotate_left;·simp only [Act.put,List.setIfInBounds_toArray,List.set_cons_zero,List.set_cons_succ,i64_w,i32_w];rfl
              refine pure_ (i:=4) (N:=some 53) (v:=?_) (a':=?_) #[true,false,true,false,true,false,false,false,false,false,false] rfl rfl (any_of HT_.out (by kernel_rfl)) (fun _ _ _ h=>h) (Or.inl ⟨by rfl,?_⟩) ?_ ?_
              rotate_left;·intro w';go_simp;with_reducible rfl
              rotate_left;·simp only [Act.put,List.setIfInBounds_toArray,List.set_cons_zero,List.set_cons_succ,i64_w,i32_w];rfl
              refine take_ (i:=1) (N:=some 50) (v:=?_) (a':=?_) #[true,true,true,false,true,false,false,false,false,false,false] rfl rfl (take_ofW HT_.out HW_.out (by kernel_rfl)) (fun _ _ _ h=>h) (Or.inl ⟨by rfl,?_⟩) hHeld ?_ ?_
              rotate_left;·rintro w' ⟨s0,s1,s2,s3,s4⟩;go_simp;with_reducible rfl
              rotate_left;·simp only [Act.put,List.setIfInBounds_toArray,List.set_cons_zero,List.set_cons_succ,i64_w,i32_w];rfl
              refine take_ (i:=3) (N:=some 52) (v:=?_) (a':=?_) #[true,true,true,true,true,false,false,false,false,false,false] rfl rfl (take_ofW HT_.out HW_.out (by kernel_rfl)) (fun _ _ _ h=>h) (Or.inl ⟨by rfl,?_⟩) hHeld ?_ ?_
              rotate_left;·rintro w' ⟨s0,s1,s2,s3,s4⟩;go_simp;with_reducible rfl
              rotate_left;·simp only [Act.put,List.setIfInBounds_toArray,List.set_cons_zero,List.set_cons_succ,i64_w,i32_w];rfl
              refine pure_ (i:=5) (N:=some 54) (v:=?_) (a':=?_) #[true,true,true,true,true,true,false,false,false,false,false] rfl rfl (any_of HT_.out (by kernel_rfl)) (fun _ _ _ h=>h) (Or.inl ⟨by rfl,?_⟩) ?_ ?_
              rotate_left;·intro w';go_simp;with_reducible rfl
              rotate_left;·simp only [Act.put,List.setIfInBounds_toArray,List.set_cons_zero,List.set_cons_succ,i64_w,i32_w];rfl
              refine take_ (i:=6) (N:=some 55) (v:=?_) (a':=?_) #[true,true,true,true,true,true,true,false,false,false,false] rfl rfl (take_ofW HT_.out HW_.out (by kernel_rfl)) (fun _ _ _ h=>h) (Or.inl ⟨by rfl,?_⟩) hHeld ?_ ?_
              rotate_left;·rintro w' ⟨s0,s1,s2,s3,s4⟩;go_simp;with_reducible rfl
              rotate_left;·simp only [Act.put,List.setIfInBounds_toArray,List.set_cons_zero,List.set_cons_succ,i64_w,i32_w];rfl
              refine one_ (i:=7) (N:=some 56) #[true,true,true,true,true,true,true,true,false,false,false] rfl rfl (one_of HT_.out (by kernel_rfl)) (by decide) (fun K hK=>?_)
              refine value_ (w1:=?_) (v:=?_) (by rfl) rfl ?_ ?_
              rotate_left 2
              ·go_simp
               constructor
               ·rfl
               ·rfl
              refine hK.out _ _ ⟨(blk_cell (blk_alloc BK633.out _) 0).trans rfl,(blk_cell (blk_alloc BK633.out _) 1).trans rfl,(blk_cell (blk_alloc BK627.out _) 0).trans rfl,(blk_cell (blk_alloc BK627.out _) 1).trans rfl,(World.cell?_alloc_lt _ _ _ (World.block_lt_of_cell? _ _ (((HB.out.cell (World.block_lt_of_cell? w _ hw643_0)).trans hw643_0)))).trans (((HB.out.cell (World.block_lt_of_cell? w _ hw643_0)).trans hw643_0))⟩ (fun hHeld=>?_)
              clear hK K
              refine norm_ (a':=?_) ?_ ?_
              rotate_left
              ·show Act.put _ (some 56) _ = _
               simp only [Act.put,List.setIfInBounds_toArray,List.set_cons_zero,List.set_cons_succ,i64_w,i32_w]
               rfl
              refine one_ (i:=8) (N:=some 57) #[true,true,true,true,true,true,true,true,true,false,false] rfl rfl (one_of HT_.out (by kernel_rfl)) (by decide) (fun K hK=>?_)
              refine Kd.R_append_step (Kd.int .i64) (w0:=w) w.heap.size (by rfl) (.tmp 50) (.tmp 56) 22 3 (.int .i64 0) 8 rfl Try.underlying22 info3 rfl (by decide) (by omega) u634000 x634000_1 (rd l0_0 x6_1) [.int .i64 (rd l0_0 x6_1)] (fun k_=>(w.heap.size ≤ k_)∧some k_ ≠ (.slice (some ad634) t630.length co19:Value).ownBlock∧some k_ ≠ (u7:Value).ownBlock) (fun _=>False) rfl rfl ?aP (fun _ hk=>hk.elim) ?aF ?aO ?aB ?aS ?aL ?_
              (case aP=>exact rfl)
              (case aB=>exact (by exact HB.out))
              (case aF=>exact (fun k_ hk=>⟨(Nat.le_trans (below_size (by exact HB.out)) hk),Kd.fresh' (Kd.R_lt (by exact HO_4.out)) k_ hk,Kd.fresh' (Kd.R_lt (by exact HO_7.out)) k_ hk⟩))
              (case aO=>exact (by exact HO_634000.out))
              (case aS=>exact (below_size (by exact HB.out)))
              (case aL=>have:=LMc34.out;omega)
              intro v645 w37 ho hb hg hat
              rw [← Ny644.out] at ho
              have n0_:=Aside0.mk (Kd.R_after (ok:=(fun k_=>(w.heap.size ≤ k_)∧some k_ ≠ (u7:Value).ownBlock)) (by exact Kd.R_mono HO_4.out (fun _ hk=>⟨⟨hk.1,hk.2.1⟩,hk.2.2⟩)) hg hat)
              have n1_:=Aside0.mk (Kd.R_after (ok:=(fun k_=>(w.heap.size ≤ k_)∧some k_ ≠ (.slice (some ad634) t630.length co19:Value).ownBlock)) (by exact Kd.R_mono HO_7.out (fun _ hk=>⟨⟨hk.1,hk.2.1⟩,hk.2.2⟩)) hg hat)
              have n2_:=Aside0.mk (Kd.N_afterv (ok:=(fun k_=>(w.heap.size ≤ k_)∧some k_ ≠ (.slice (some ad634) t630.length co19:Value).ownBlock∧some k_ ≠ (u7:Value).ownBlock∧k_ ≠ gb627∧k_ ≠ gb628∧k_ ≠ gb633)) (by exact Kd.N_mono HO_634001.out (fun _ hk=>⟨⟨hk.1,⟨hk.2.1,⟨hk.2.2.1,⟨hk.2.2.2.2.1,⟨hk.2.2.2.2.2.1,hk.2.2.2.2.2.2⟩⟩⟩⟩⟩,hk.2.2.2.1⟩)) hg hat)
              have n3_:=Aside0.mk (blk_grown (g:=gb627) (o:=.cells #[.slice (some ad643) l0_0.length c0_0,.slice A0_1 l0_1.length c0_1] 28 (0,0)) (by exact BK627.out) hg (Kd.R_ne HO_634000.out BK627.out (by decide)))
              have n4_:=Aside0.mk (blk_grown (g:=gb628) (o:=.cells #[.slice none 0 0,.slice none 0 0] 28 (0,0)) (by exact BK628.out) hg (Kd.R_ne HO_634000.out BK628.out (by decide)))
              have n5_:=Aside0.mk (blk_grown (g:=gb633) (o:=.cells #[u634000,u634001] 28 (0,0)) (by exact BK633.out) hg (Kd.R_ne HO_634000.out BK633.out (by decide)))
              have n6_:=Aside0.mk (hb)
              have n7_:=Aside0.mk (ho)
              clear HO_4
              clear HO_7
              clear HO_634001
              clear BK627
              clear BK628
              clear BK633
              clear HB
              clear HO_634000
              have HO_4:=n0_
              have HO_7:=n1_
              have HO_634001:=n2_
              have BK627:=n3_
              have BK628:=n4_
              have BK633:=n5_
              have HB:=n6_
              have HO646:=n7_
              clear n0_ n1_ n2_ n3_ n4_ n5_ n6_ n7_
              clear ho hb hg hat
              obtain ⟨Ao38,co38,eo38⟩:=Kd.R_slice HO646.out
              (first | subst eo38 | (injection eo38 with f1_ f2_ f3_;have f4_:=f1_.symm;have f5_:=f3_.symm;clear f1_ f2_ f3_;subst f4_;subst f5_))
              refine hK.out _ _ ⟨(blk_cell BK633.out 0).trans rfl,(blk_cell BK633.out 1).trans rfl,(blk_cell BK627.out 0).trans rfl,(blk_cell BK627.out 1).trans rfl,((HB.out.cell (World.block_lt_of_cell? w _ hw643_0)).trans hw643_0)⟩ (fun hHeld=>?_)
              clear hK K
              refine norm_ (a':=?_) ?_ ?_
              rotate_left
              ·show Act.put _ (some 57) _ = _
               simp only [Act.put,List.setIfInBounds_toArray,List.set_cons_zero,List.set_cons_succ,i64_w,i32_w]
               rfl
              refine pure_ (i:=9) (N:=some 58) (v:=?_) (a':=?_) #[true,true,true,true,true,true,true,true,true,true,false] rfl rfl (any_of HT_.out (by kernel_rfl)) (fun _ _ _ h=>h) (Or.inl ⟨by rfl,?_⟩) ?_ ?_
              rotate_left;·intro w';go_simp;with_reducible rfl
              rotate_left;·simp only [Act.put,List.setIfInBounds_toArray,List.set_cons_zero,List.set_cons_succ,i64_w,i32_w];rfl
              refine last_ (i:=10) (N:=none) #[true,true,true,true,true,true,true,true,true,true,true] rfl rfl (one_of HT_.out (by kernel_rfl)) (by decide) (fun K hK=>?_)
              have hs39:w37.cell? ⟨gb633,0,none⟩ = some (u634000):=(blk_cell BK633.out 0).trans rfl
              have hfs39:=blk_frozen BK633.out 0
              have hns39_0:=NB627_633.out
              have hns39_1:=NB628_633.out
              have hms39_0:=NB633_627.out
              have hms39_1:=NB633_628.out
              refine skip_ (w1:=?_) (by rfl) rfl ?_ ?_
              rotate_left
              ·go_simp
               rfl
              refine hK.out _ _ ?_
              clear hK K
              refine done_ (done_of HT_.out (by kernel_rfl)) ?_
              have n0_:Aside0 (Kd.R (Kd.int .i64) 3 (w37.setCell ⟨gb633,0,none⟩ (.slice Ao38 y644.length co38)) w.heap.size (fun k_=>(w.heap.size ≤ k_)∧some k_ ≠ (u7:Value).ownBlock∧some k_ ≠ (.slice Ao38 y644.length co38:Value).ownBlock) (.slice (some ad634) t630.length co19) t630):=⟨by exact Kd.R_mono (Kd.R_far (p:=⟨gb633,0,none⟩) (Kd.R_types HO_4.out BK633.out (by decide)) (fun _ hk=>hk.2) (.slice Ao38 y644.length co38)) (fun _ hk=>⟨hk.1.1.1,⟨hk.1.1.2,hk.1.2⟩⟩)⟩
              have n1_:Aside0 (Kd.R (Kd.int .i64) 3 (w37.setCell ⟨gb633,0,none⟩ (.slice Ao38 y644.length co38)) w.heap.size (fun k_=>(w.heap.size ≤ k_)∧some k_ ≠ (.slice (some ad634) t630.length co19:Value).ownBlock∧some k_ ≠ (.slice Ao38 y644.length co38:Value).ownBlock) u7 x7_2):=⟨by exact Kd.R_mono (Kd.R_far (p:=⟨gb633,0,none⟩) (Kd.R_types HO_7.out BK633.out (by decide)) (fun _ hk=>hk.2) (.slice Ao38 y644.length co38)) (fun _ hk=>⟨hk.1.1.1,⟨hk.1.1.2,hk.1.2⟩⟩)⟩
              have n2_:Aside0 (Kd.N (Kd.slice 3 (Kd.int .i64)) 22 (w37.setCell ⟨gb633,0,none⟩ (.slice Ao38 y644.length co38)) w.heap.size (fun k_=>(w.heap.size ≤ k_)∧some k_ ≠ (.slice (some ad634) t630.length co19:Value).ownBlock∧some k_ ≠ (u7:Value).ownBlock∧some k_ ≠ (.slice Ao38 y644.length co38:Value).ownBlock∧k_ ≠ gb627∧k_ ≠ gb628∧k_ ≠ gb633) u634001 x634001_1):=⟨by exact Kd.N_mono (Kd.N_far (p:=⟨gb633,0,none⟩) (Kd.N_mono HO_634001.out (fun k_ hk=>(⟨hk,hk.1.2.2.2.2.2⟩:_∧k_ ≠ gb633))) (fun _ hk=>hk.2) (.slice Ao38 y644.length co38)) (fun _ hk=>⟨hk.1.1.1,⟨hk.1.1.2.1,⟨hk.1.1.2.2.1,⟨hk.1.2,⟨hk.1.1.2.2.2.1,⟨hk.1.1.2.2.2.2.1,hk.1.1.2.2.2.2.2⟩⟩⟩⟩⟩⟩)⟩
              have n3_:Aside0 (Kd.R (Kd.int .i64) 3 (w37.setCell ⟨gb633,0,none⟩ (.slice Ao38 y644.length co38)) w.heap.size (fun k_=>(w.heap.size ≤ k_)∧some k_ ≠ (.slice (some ad634) t630.length co19:Value).ownBlock∧some k_ ≠ (u7:Value).ownBlock) (.slice Ao38 y644.length co38) y644):=⟨by exact Kd.R_mono (Kd.R_far (p:=⟨gb633,0,none⟩) (Kd.R_types HO646.out BK633.out (by decide)) (fun _ hk=>hk.2) (.slice Ao38 y644.length co38)) (fun _ hk=>⟨hk.1.1,⟨hk.1.2.1,hk.1.2.2⟩⟩)⟩
              have n4_:Aside0 ((w37.setCell ⟨gb633,0,none⟩ (.slice Ao38 y644.length co38)).heap[gb627]? = some (.cells #[.slice (some ad643) l0_0.length c0_0,.slice A0_1 l0_1.length c0_1] 28 (0,0))):=⟨by refine blk_far ?_ NB627_633.out _;exact BK627.out⟩
              have n5_:Aside0 ((w37.setCell ⟨gb633,0,none⟩ (.slice Ao38 y644.length co38)).heap[gb628]? = some (.cells #[.slice none 0 0,.slice none 0 0] 28 (0,0))):=⟨by refine blk_far ?_ NB628_633.out _;exact BK628.out⟩
              have n6_:Aside0 ((w37.setCell ⟨gb633,0,none⟩ (.slice Ao38 y644.length co38)).heap[gb633]? = some (.cells #[.slice Ao38 y644.length co38,u634001] 28 (0,0))):=⟨by refine blk_put (cs:=#[u634000,u634001]) ?_ 0 _ rfl;exact BK633.out⟩
              have n7_:Aside0 (Below w.heap.size w (w37.setCell ⟨gb633,0,none⟩ (.slice Ao38 y644.length co38))):=⟨by repeat (with_reducible first | exact HB.out | apply below_alloc | apply pw_below_drewN | apply below_drew1 | refine below_set ?_ GE627.out | refine below_set ?_ GE628.out | refine below_set ?_ GE633.out)⟩
              (try clear HO_4)
              (try clear HO_7)
              (try clear HO_634001)
              (try clear HO646)
              (try clear BK627)
              (try clear BK628)
              (try clear BK633)
              (try clear HB)
              generalize (w37.setCell ⟨gb633,0,none⟩ (.slice Ao38 y644.length co38)) = w40 at n0_ n1_ n2_ n3_ n4_ n5_ n6_ n7_ ⊢
              have HO_4:=n0_
              have HO_7:=n1_
              have HO_634001:=n2_
              have HO646:=n3_
              have BK627:=n4_
              have BK628:=n5_
              have BK633:=n6_
              have HB:=n7_
              clear n0_ n1_ n2_ n3_ n4_ n5_ n6_ n7_
              have hnb41:=NB633_627.out
              have hnc41:=NB627_633.out
              have hnb42:=NB633_628.out
              have hnc42:=NB628_633.out
              have hcz43_0:w40.cell? ⟨gb633,0,none⟩ = some (.slice Ao38 y644.length co38):=(blk_cell BK633.out 0).trans rfl
              have hcz43_1:w40.cell? ⟨gb633,1,none⟩ = some (u634001):=(blk_cell BK633.out 1).trans rfl
              have hfz43_0:=blk_frozen BK633.out 0
              have hfz43_1:=blk_frozen BK633.out 1
              obtain ⟨Ao45,co45,eo45⟩:=Kd.R_slice HO_7.out
              subst eo45
              try go_wp2_with (first | ((with_reducible refine gate_builtin (b:=.append) (xs:=#[.tmp 60,.tmp 62]) rfl ?_);at_builtin;refine Kd.N_append (Kd.slice 3 (Kd.int .i64)) (w0:=w) w.heap.size rfl (.tmp 60) (.tmp 62) 23 22 (.slice none 0 0) 24 rfl Try.underlying23 info22 rfl (by decide) (by omega) u634001 x634001_1 x7_2 [.slice Ao45 x7_2.length co45] (fun k_=>(w.heap.size ≤ k_)∧some k_ ≠ (.slice (some ad634) t630.length co19:Value).ownBlock∧some k_ ≠ (.slice Ao38 y644.length co38:Value).ownBlock∧k_ ≠ gb627∧k_ ≠ gb628∧k_ ≠ gb633) (fun k_=>((fun k_=>(w.heap.size ≤ k_)∧some k_ ≠ (.slice (some ad634) t630.length co19:Value).ownBlock∧some k_ ≠ (.slice Ao38 y644.length co38:Value).ownBlock∧k_ ≠ gb627∧k_ ≠ gb628∧k_ ≠ gb633)) k_∧some k_ ≠ (u634001:Value).ownBlock) rfl rfl ?aP (fun _ hk=>hk) ?aF ?aO ?aB ?aS ?aL ?_;(case aP=>exact (Kd.FK_slice_mk (Kd.R_reads' (Kd.R_mono (ok':=(fun k_=>((fun k_=>(w.heap.size ≤ k_)∧some k_ ≠ (.slice (some ad634) t630.length co19:Value).ownBlock∧some k_ ≠ (.slice Ao38 y644.length co38:Value).ownBlock∧k_ ≠ gb627∧k_ ≠ gb628∧k_ ≠ gb633)) k_∧some k_ ≠ (u634001:Value).ownBlock)) (Kd.R_types (Kd.R_types (Kd.R_types (Kd.R_apart' (HO_7.out) (Kd.N_typed HO_634001.out) (by decide)) BK627.out (by decide)) BK628.out (by decide)) BK633.out (by decide)) (fun k_ hk=>⟨⟨hk.1.1.1.1.1,⟨hk.1.1.1.1.2.1,⟨hk.1.1.1.1.2.2,⟨hk.1.1.2,⟨hk.1.2,hk.2⟩⟩⟩⟩⟩,hk.1.1.1.2⟩))).2.1 (Kd.R_F (Kd.R_mono (ok':=(fun k_=>((fun k_=>(w.heap.size ≤ k_)∧some k_ ≠ (.slice (some ad634) t630.length co19:Value).ownBlock∧some k_ ≠ (.slice Ao38 y644.length co38:Value).ownBlock∧k_ ≠ gb627∧k_ ≠ gb628∧k_ ≠ gb633)) k_∧some k_ ≠ (u634001:Value).ownBlock)) (Kd.R_types (Kd.R_types (Kd.R_types (Kd.R_apart' (HO_7.out) (Kd.N_typed HO_634001.out) (by decide)) BK627.out (by decide)) BK628.out (by decide)) BK633.out (by decide)) (fun k_ hk=>⟨⟨hk.1.1.1.1.1,⟨hk.1.1.1.1.2.1,⟨hk.1.1.1.1.2.2,⟨hk.1.1.2,⟨hk.1.2,hk.2⟩⟩⟩⟩⟩,hk.1.1.1.2⟩)))));(case aB=>exact (by exact HB.out));(case aF=>exact (fun k_ hk=>⟨(Nat.le_trans (below_size (by exact HB.out)) hk),Kd.fresh' (Kd.R_lt (by exact HO_4.out)) k_ hk,Kd.fresh' (Kd.R_lt (by exact HO646.out)) k_ hk,Kd.freshB (g:=gb627) (o:=.cells #[.slice (some ad643) l0_0.length c0_0,.slice A0_1 l0_1.length c0_1] 28 (0,0)) (by exact BK627.out) k_ hk,Kd.freshB (g:=gb628) (o:=.cells #[.slice none 0 0,.slice none 0 0] 28 (0,0)) (by exact BK628.out) k_ hk,Kd.freshB (g:=gb633) (o:=.cells #[.slice Ao38 y644.length co38,u634001] 28 (0,0)) (by exact BK633.out) k_ hk⟩));(case aO=>exact (by exact Kd.N_mono HO_634001.out (fun _ hk=>⟨hk.1,⟨hk.2.1,⟨hk.2.2.2.1,⟨hk.2.2.2.2.1,⟨hk.2.2.2.2.2.1,hk.2.2.2.2.2.2⟩⟩⟩⟩⟩)));(case aS=>exact (below_size (by exact HB.out)));(case aL=>have:=LMc35.out;omega);intro v648 w44 ho hb hg hat;rw [← Ny647.out] at ho;have n0_:=Aside0.mk (Kd.R_over' (by exact HO_4.out) (Kd.N_typed (by exact HO_634001.out)) (by decide) hg);have n1_:=Aside0.mk (blk_grown (g:=gb627) (o:=.cells #[.slice (some ad643) l0_0.length c0_0,.slice A0_1 l0_1.length c0_1] 28 (0,0)) (by exact BK627.out) hg (Kd.N_ne HO_634001.out BK627.out (by decide)));have n2_:=Aside0.mk (blk_grown (g:=gb628) (o:=.cells #[.slice none 0 0,.slice none 0 0] 28 (0,0)) (by exact BK628.out) hg (Kd.N_ne HO_634001.out BK628.out (by decide)));have n3_:=Aside0.mk (blk_grown (g:=gb633) (o:=.cells #[.slice Ao38 y644.length co38,u634001] 28 (0,0)) (by exact BK633.out) hg (Kd.N_ne HO_634001.out BK633.out (by decide)));have n4_:=Aside0.mk (Kd.R_over' (by exact HO646.out) (Kd.N_typed (by exact HO_634001.out)) (by decide) hg);have n5_:=Aside0.mk (hb);have n6_:=Aside0.mk (ho);clear HO_4;clear BK627;clear BK628;clear BK633;clear HO646;clear HB;clear HO_634001;clear HO_7;have HO_4:=n0_;have BK627:=n1_;have BK628:=n2_;have BK633:=n3_;have HO646:=n4_;have HB:=n5_;have HO649:=n6_;clear n0_ n1_ n2_ n3_ n4_ n5_ n6_;clear ho hb hg hat;obtain ⟨Ao46,co46,eo46⟩:=Kd.N_slice HO649.out;subst eo46;have hcz47_0:w44.cell? ⟨gb633,0,none⟩ = some (.slice Ao38 y644.length co38):=(blk_cell BK633.out 0).trans rfl;have hcz47_1:w44.cell? ⟨gb633,1,none⟩ = some (u634001):=(blk_cell BK633.out 1).trans rfl;have hfz47_0:=blk_frozen BK633.out 0;have hfz47_1:=blk_frozen BK633.out 1))
              go_roundg k2
              case measure=>have:=HK1.out;have:=HK2.out;omega
              case rel=>exact ⟨(wrap64 (x6_1 + 1)),(y644),(y647),(.slice Ao38 y644.length co38),(.slice Ao46 y647.length co46),(by first | rfl | (simp;done) | (simp [*];done)),H',⟨by have:=HK1.out;have:=HK2.out;omega⟩,⟨by (with_reducible repeat (first | apply Kd.R_alloc | apply Kd.R_drewN | apply Kd.R_drew));exact Kd.R_mono (Kd.R_far (p:=⟨gb633,1,none⟩) (Kd.R_types HO_4.out BK633.out (by decide)) (fun _ hk=>hk.2) (.slice Ao46 y647.length co46)) (fun _ hk=>⟨hk.1.1,hk.1.2.2⟩)⟩,⟨by (with_reducible repeat (first | apply Kd.R_alloc | apply Kd.R_drewN | apply Kd.R_drew));exact Kd.R_mono (Kd.R_far (p:=⟨gb633,1,none⟩) (Kd.R_types HO646.out BK633.out (by decide)) (fun _ hk=>hk.2) (.slice Ao46 y647.length co46)) (fun _ hk=>⟨hk.1.1,hk.1.2.1⟩)⟩,⟨by (with_reducible repeat (first | apply Kd.N_alloc | apply Kd.N_drewN | apply Kd.N_drew));exact Kd.N_mono (Kd.N_far (p:=⟨gb633,1,none⟩) (Kd.N_mono HO649.out (fun k_ hk=>(⟨hk,hk.2.2.2.2.2⟩:_∧k_ ≠ gb633))) (fun _ hk=>hk.2) (.slice Ao46 y647.length co46)) (fun _ hk=>⟨hk.1.1,⟨hk.1.2.1,⟨hk.1.2.2.1,⟨hk.1.2.2.2.1,⟨hk.1.2.2.2.2.1,hk.1.2.2.2.2.2⟩⟩⟩⟩⟩)⟩,⟨by (with_reducible repeat (first | refine blk_drewN ?_ _ | refine blk_drew ?_ | refine blk_alloc ?_ _));refine blk_far ?_ NB627_633.out _;(with_reducible repeat (first | refine blk_drewN ?_ _ | refine blk_drew ?_ | refine blk_alloc ?_ _));exact BK627.out⟩,⟨by (with_reducible repeat (first | refine blk_drewN ?_ _ | refine blk_drew ?_ | refine blk_alloc ?_ _));refine blk_far ?_ NB628_633.out _;(with_reducible repeat (first | refine blk_drewN ?_ _ | refine blk_drew ?_ | refine blk_alloc ?_ _));exact BK628.out⟩,⟨by (with_reducible repeat (first | refine blk_drewN ?_ _ | refine blk_drew ?_ | refine blk_alloc ?_ _));refine blk_put (cs:=#[.slice Ao38 y644.length co38,u634001]) ?_ 1 _ rfl;(with_reducible repeat (first | refine blk_drewN ?_ _ | refine blk_drew ?_ | refine blk_alloc ?_ _));exact BK633.out⟩,⟨by repeat (with_reducible first | exact HB.out | apply below_alloc | apply pw_below_drewN | apply below_drew1 | refine below_set ?_ GE627.out | refine below_set ?_ GE628.out | refine below_set ?_ GE633.out)⟩⟩
             ·rw [if_neg c35] at H
              exact absurd H (by simp)
            ·rw [if_neg c34] at H
             exact absurd H (by simp)
           ·rw [if_neg c33] at H
            exact absurd H (by simp)
          ·rw [if_neg c32] at H
           exact absurd H (by simp)
      ·rw [if_neg c18] at H
       have c18b0:((rd t630 x6_1) == x6_1) = false:=beq_eq_false_iff_ne.mpr c18
       have c18b1:((rd t630 x6_1) != x6_1) = true:=bne_iff_ne.mpr c18
       have H':=Aside0.mk H
       clear H
       obtain ⟨Ao48,co48,eo48⟩:=Kd.R_slice HO_4.out
       subst eo48
       have p634:0 ≤ (x6_1:Int):=of_decide_eq_true (by assumption)
       have q634:x6_1 < (t630.length:Int):=of_decide_eq_true (by assumption)
       obtain ⟨ad634,e634,hx634_0⟩:=Kd.at_int (Kd.R_reads' HO_4.out).2.2 x6_1 p634 q634
       cases e634
       replace p634:=eq_true p634
       replace q634:=eq_true q634
       go_wp2
       go_roundg k1
       case measure=>have:=HK1.out;omega
       case rel=>exact ⟨(wrap64 (x6_1 + 1)),(x634000_1),(x634001_1),(u634000),(u634001),(by first | rfl | (simp;done) | (simp [*];done)),H',⟨by have:=HK1.out;omega⟩,⟨by exact HO_4.out⟩,⟨by exact HO_634000.out⟩,⟨by exact HO_634001.out⟩,⟨by exact BK627.out⟩,⟨by exact BK628.out⟩,⟨by exact BK633.out⟩,⟨by exact HB.out⟩⟩
     ·rw [if_neg c17] at H
      exact absurd H (by simp)
    ·rw [if_neg c16] at H
     have c16b0:decide (x6_1 < (t630.length:Int)) = false:=decide_eq_false c16
     clear c16
     simp only [Option.some.injEq,Prod.mk.injEq] at H
     obtain ⟨rfl,rfl,rfl⟩:=H
     obtain ⟨Ao49,co49,eo49⟩:=Kd.R_slice HO_4.out
     subst eo49
     have hnb50:=NB633_627.out
     have hnc50:=NB627_633.out
     have hnb51:=NB633_628.out
     have hnc51:=NB628_633.out
     have hcz52_0:wr.cell? ⟨gb633,0,none⟩ = some (u634000):=(blk_cell BK633.out 0).trans rfl
     have hcz52_1:wr.cell? ⟨gb633,1,none⟩ = some (u634001):=(blk_cell BK633.out 1).trans rfl
     have hfz52_0:=blk_frozen BK633.out 0
     have hfz52_1:=blk_frozen BK633.out 1
     obtain ⟨Ao53,co53,eo53⟩:=Kd.R_slice HO_634000.out
     subst eo53
     have hnb54:=NB628_627.out
     have hnc54:=NB627_628.out
     have hcz55_0:wr.cell? ⟨gb628,0,none⟩ = some (.slice none 0 0):=(blk_cell BK628.out 0).trans rfl
     have hcz55_1:wr.cell? ⟨gb628,1,none⟩ = some (.slice none 0 0):=(blk_cell BK628.out 1).trans rfl
     have hfz55_0:=blk_frozen BK628.out 0
     have hfz55_1:=blk_frozen BK628.out 1
     obtain ⟨Ao56,co56,eo56⟩:=Kd.N_slice HO_634001.out
     subst eo56
     go_wp2
     refine bodyPost_ret (results_ct rfl _ _ gb628 28 #[.slice Ao53 x634000_1.length co53,.slice Ao56 x634001_1.length co56] (0,0) _ rfl (by refine blk_put (cs:=#[.slice Ao53 x634000_1.length co53,.slice none 0 0]) ?_ 1 _ rfl;refine blk_put (cs:=#[.slice none 0 0,.slice none 0 0]) ?_ 0 _ rfl;exact BK628.out) Try.underlying28 rfl (by kernel_rfl)) rfl ?_
     exact ⟨_,_,by first | rfl | (simp [errW_none,errW_some] <;> rfl) | (simp [*,errW_none,errW_some] <;> rfl),by (with_reducible repeat (first | apply Kd.R_alloc | apply Kd.R_drewN | apply Kd.R_drew));exact Kd.R_mono (Kd.R_far (p:=⟨gb628,1,none⟩) (Kd.R_far (p:=⟨gb628,0,none⟩) (Kd.R_types HO_634000.out BK628.out (by decide)) (fun _ hk=>hk.2) (.slice Ao53 x634000_1.length co53)) (fun _ hk=>hk.2) (.slice Ao56 x634001_1.length co56)) (fun _ hk=>hk.1.1),by (with_reducible repeat (first | apply Kd.N_alloc | apply Kd.N_drewN | apply Kd.N_drew));exact Kd.N_mono (Kd.N_far (p:=⟨gb628,1,none⟩) (Kd.N_far (p:=⟨gb628,0,none⟩) (Kd.N_mono HO_634001.out (fun k_ hk=>(⟨hk,hk.2.2.2.2.1⟩:_∧k_ ≠ gb628))) (fun _ hk=>hk.2) (.slice Ao53 x634000_1.length co53)) (fun _ hk=>hk.2) (.slice Ao56 x634001_1.length co56)) (fun _ hk=>⟨hk.1.1,hk.1.2.2.1⟩),by repeat (with_reducible first | exact HB.out | apply below_alloc | apply pw_below_drewN | apply below_drew1 | refine below_set ?_ GE627.out | refine below_set ?_ GE628.out | refine below_set ?_ GE633.out)⟩
 ·replace c3:=Bool.eq_false_iff.mpr c3
  subst c3
  have H1:(some (([]:List Int),([]:List (List Int)),false)) = some (r1,r2,r3):=by rw [if_neg (show ¬ (false = true) by decide)] at H;exact H
  clear H
  have H:=H1
  clear H1
  simp only [Option.some.injEq,Prod.mk.injEq] at H
  obtain ⟨rfl,rfl,rfl⟩:=H
  go_enter Try.func35,Try.ntmps35
  go_wp2_with (first | ((with_reducible refine gate_dst (N:=1) rfl ?_);refine box_event ?hg (N:=1) ?hd (cs:=#[.slice A0_0 l0_0.length c0_0,.slice A0_1 l0_1.length c0_1]) (t:=28) ?hr ?_;(case hd=>rfl);(case hg=>rfl);(case hr=>first | (go_simp;done) | (go_simp;rfl));intro gb627 hg w57 hbox hb;have n0_:=Aside0.mk (below_step (by repeat (with_reducible first | exact HB.out | apply below_alloc | apply pw_below_drewN | apply below_drew1)) hb);have n1_:=Aside0.mk (hbox);have n2_:=Aside0.mk ((by rw [hg];exact (below_size (by repeat (with_reducible first | exact HB.out | apply below_alloc | apply pw_below_drewN | apply below_drew1))):w.heap.size ≤ gb627));have n3_:=Aside0.mk ((by rw [hg];exact (below_size (by repeat (with_reducible first | exact HB.out | apply below_alloc | apply pw_below_drewN | apply below_drew1))):w.heap.size ≤ gb627));clear HB;have HB:=n0_;have BK627:=n1_;have GW627:=n2_;have GE627:=n3_;clear n0_ n1_ n2_ n3_;clear hb hbox hg) | ((with_reducible refine gate_dst (N:=2) rfl ?_);refine box_event ?hg (N:=2) ?hd (cs:=#[.slice none 0 0,.slice none 0 0]) (t:=28) ?hr ?_;(case hd=>rfl);(case hg=>rfl);(case hr=>first | (go_simp;done) | (go_simp;rfl));intro gb628 hg w58 hbox hb;have n0_:=Aside0.mk (blk_below (g:=gb627) (o:=.cells #[.slice A0_0 l0_0.length c0_0,.slice A0_1 l0_1.length c0_1] 28 (0,0)) (by (with_reducible repeat (first | refine blk_drewN ?_ _ | refine blk_drew ?_ | refine blk_alloc ?_ _));exact BK627.out) hb);have n1_:=Aside0.mk (below_step (by repeat (with_reducible first | exact HB.out | apply below_alloc | apply pw_below_drewN | apply below_drew1 | refine below_set ?_ GE627.out)) hb);have n2_:=Aside0.mk (hbox);have n3_:=Aside0.mk ((by rw [hg];exact (below_size (by repeat (with_reducible first | exact HB.out | apply below_alloc | apply pw_below_drewN | apply below_drew1 | refine below_set ?_ GE627.out))):w.heap.size ≤ gb628));have n4_:=Aside0.mk ((by rw [hg];exact (below_size (by repeat (with_reducible first | exact HB.out | apply below_alloc | apply pw_below_drewN | apply below_drew1 | refine below_set ?_ GE627.out))):w.heap.size ≤ gb628));have n5_:=Aside0.mk ((by rw [hg];exact Nat.ne_of_lt (blk_lt (g:=gb627) (o:=.cells #[.slice A0_0 l0_0.length c0_0,.slice A0_1 l0_1.length c0_1] 28 (0,0)) (by (with_reducible repeat (first | refine blk_drewN ?_ _ | refine blk_drew ?_ | refine blk_alloc ?_ _));exact BK627.out)):gb627 ≠ gb628));have n6_:=Aside0.mk ((by rw [hg];exact Nat.ne_of_gt (blk_lt (g:=gb627) (o:=.cells #[.slice A0_0 l0_0.length c0_0,.slice A0_1 l0_1.length c0_1] 28 (0,0)) (by (with_reducible repeat (first | refine blk_drewN ?_ _ | refine blk_drew ?_ | refine blk_alloc ?_ _));exact BK627.out)):gb628 ≠ gb627));clear BK627;clear HB;have BK627:=n0_;have HB:=n1_;have BK628:=n2_;have GW628:=n3_;have GE628:=n4_;have NB627_628:=n5_;have NB628_627:=n6_;clear n0_ n1_ n2_ n3_ n4_ n5_ n6_;clear hb hbox hg;have hnb59:=NB627_628.out;have hnc59:=NB628_627.out;have hcz60_0:w58.cell? ⟨gb627,0,none⟩ = some (.slice A0_0 l0_0.length c0_0):=(blk_cell BK627.out 0).trans rfl;have hcz60_1:w58.cell? ⟨gb627,1,none⟩ = some (.slice A0_1 l0_1.length c0_1):=(blk_cell BK627.out 1).trans rfl;have hfz60_0:=blk_frozen BK627.out 0;have hfz60_1:=blk_frozen BK627.out 1) | ((with_reducible refine gate_callee (f:=14) rfl ?_);refine goesL_ (some 10) rfl rfl Try.func14 (by kernel_rfl) rfl #[.agg #[.slice A0_0 l0_0.length c0_0,.slice A0_1 l0_1.length c0_1]] rfl (by (try simp only [List.map_toArray,List.map_cons,List.map_nil]);first | done | rfl | (simp only [List.length_drop,List.length_take];rfl)) ?_;(with_reducible refine (spec_ChancesOk.calls k _ _ l0_0 _ _ l0_1 false _ ?side1 ?side2 ?side3 ?side4 A2.out).mono ?_);(case side1=>repeat (first | exact (Kd.C_below HR0_0.out HB.out) | (with_reducible refine Kd.C_alloc ?_ _) | (with_reducible refine Kd.C_drewN ?_ _) | (with_reducible refine Kd.C_drew ?_)));(case side2=>exact HC0_0.out);(case side3=>repeat (first | exact (Kd.C_below HR0_1.out HB.out) | (with_reducible refine Kd.C_alloc ?_ _) | (with_reducible refine Kd.C_drewN ?_ _) | (with_reducible refine Kd.C_drew ?_)));(case side4=>exact HC0_1.out);rintro e w61 ⟨rfl,hb⟩;refine ⟨_,rfl,?_⟩;have n0_:=Aside0.mk (blk_below (g:=gb627) (o:=.cells #[.slice A0_0 l0_0.length c0_0,.slice A0_1 l0_1.length c0_1] 28 (0,0)) (by (with_reducible repeat (first | refine blk_drewN ?_ _ | refine blk_drew ?_ | refine blk_alloc ?_ _));exact BK627.out) hb);have n1_:=Aside0.mk (blk_below (g:=gb628) (o:=.cells #[.slice none 0 0,.slice none 0 0] 28 (0,0)) (by (with_reducible repeat (first | refine blk_drewN ?_ _ | refine blk_drew ?_ | refine blk_alloc ?_ _));exact BK628.out) hb);have n2_:=Aside0.mk (below_step (by repeat (with_reducible first | exact HB.out | apply below_alloc | apply pw_below_drewN | apply below_drew1 | refine below_set ?_ GE627.out | refine below_set ?_ GE628.out)) hb);clear BK627;clear BK628;clear HB;have BK627:=n0_;have BK628:=n1_;have HB:=n2_;clear n0_ n1_ n2_;(try clear hb);(try clear hb2);(try clear hk);(try clear hi);have hcz62_0:w61.cell? ⟨gb628,0,none⟩ = some (.slice none 0 0):=(blk_cell BK628.out 0).trans rfl;have hcz62_1:w61.cell? ⟨gb628,1,none⟩ = some (.slice none 0 0):=(blk_cell BK628.out 1).trans rfl;have hfz62_0:=blk_frozen BK628.out 0;have hfz62_1:=blk_frozen BK628.out 1))
  refine bodyPost_ret (results_ct rfl _ _ gb628 28 #[.slice none 0 0,.slice none 0 0] (0,0) _ rfl (by (with_reducible repeat (first | refine blk_drewN ?_ _ | refine blk_drew ?_ | refine blk_alloc ?_ _));refine blk_put (cs:=#[.slice none 0 0,.slice none 0 0]) ?_ 1 _ rfl;(with_reducible repeat (first | refine blk_drewN ?_ _ | refine blk_drew ?_ | refine blk_alloc ?_ _));refine blk_put (cs:=#[.slice none 0 0,.slice none 0 0]) ?_ 0 _ rfl;(with_reducible repeat (first | refine blk_drewN ?_ _ | refine blk_drew ?_ | refine blk_alloc ?_ _));exact BK628.out) Try.underlying28 rfl (by kernel_rfl)) rfl ?_
  exact ⟨_,_,by first | rfl | (simp [errW_none,errW_some] <;> rfl) | (simp [*,errW_none,errW_some] <;> rfl),by first | exact Kd.R_nil _ _ _ _ _ | exact Kd.N_nil _ _ _ _ _ | exact Kd.V_nil _ _ _ _ _ | exact Kd.Q_nil _ _ _ _ _ | exact Kd.S_nil _ _ _ _ _,by first | exact Kd.S_nil _ _ _ _ _ | exact Kd.N_nil _ _ _ _ _ | exact Kd.V_nil _ _ _ _ _ | exact Kd.Q_nil _ _ _ _ _ | exact Kd.R_nil _ _ _ _ _,by repeat (with_reducible first | exact HB.out | apply below_alloc | apply pw_below_drewN | apply below_drew1 | refine below_set ?_ GE627.out | refine below_set ?_ GE628.out)⟩
def impl_ChancesClasses.f (k:Nat) (l0_0:List Int) (l0_1:List (List Int)):Option (List Int):=(impl_ChancesOk.f k l0_0 l0_1).bind fun t232=>(if t232 = true then ((impl_chanceClasses.f k l0_0 l0_1).bind fun t233=>(some t233)) else (some ([]:List Int)))
theorem impl_ChancesClasses.mono:∀ a0 a1 k,LeO (impl_ChancesClasses.f k a0 a1) (impl_ChancesClasses.f (k + 1) a0 a1):=by
 intro a0 a1 k
 unfold impl_ChancesClasses.f
 repeat' first
   | (with_reducible exact impl_ChancesOk.mono _ _ _)
   | (with_reducible exact impl_chanceClasses.mono _ _ _)
   | (with_reducible exact LeO.refl _)
   | (with_reducible exact LeO.none _)
   | (with_reducible refine LeO.ite ?_ ?_)
   | (with_reducible refine LeO.bind ?_ (fun _=>?_))
   | exact impl_ChancesOk.mono _ _ _
   | exact impl_chanceClasses.mono _ _ _
   | exact LeO.none _
   | refine LeO.ite ?_ ?_
   | refine LeO.bind ?_ (fun _=>?_)
set_option maxHeartbeats 8000000 in
set_option maxRecDepth 100000 in
theorem impl_ChancesClasses.calls (k:Nat) (A0_0:Option Addr) (c0_0:Nat) (l0_0:List Int) (A0_1:Option Addr) (c0_1:Nat) (l0_1:List (List Int)) (r:List Int) (w:World) (hr0_0:Kd.C (Kd.int .i64) w A0_0 l0_0.length l0_0) (hc0_0:l0_0.length ≤ c0_0) (hr0_1:Kd.C (Kd.slice 3 (Kd.int .i64)) w A0_1 l0_1.length l0_1) (hc0_1:l0_1.length ≤ c0_1) (h:impl_ChancesClasses.f k l0_0 l0_1 = some r) :
  Calls Try.prog 20 #[.agg #[.slice A0_0 l0_0.length c0_0,.slice A0_1 l0_1.length c0_1]] w fun e w'=>∃ v0_:Value,e = .returned (v0_)∧Kd.R (Kd.int .i64) 3 w' w.heap.size (fun _=>True) v0_ r∧Below w.heap.size w w':=by
 have hu28:=Try.underlying28
 have HR0_0:=Aside0.mk hr0_0
 have HC0_0:=Aside0.mk hc0_0
 clear hr0_0 hc0_0
 have HR0_1:=Aside0.mk hr0_1
 have HC0_1:=Aside0.mk hc0_1
 clear hr0_1 hc0_1
 have HB:=Aside0.mk (Below.refl w.heap.size w)
 have H:((impl_ChancesOk.f k l0_0 l0_1).bind fun t232=>(if t232 = true then ((impl_chanceClasses.f k l0_0 l0_1).bind fun t233=>(some t233)) else (some ([]:List Int)))) = some r:=h
 clear h
 replace H:=Option.bind_eq_some_iff.mp H
 obtain ⟨t232,A20,H⟩:=H
 replace H:(if t232 = true then ((impl_chanceClasses.f k l0_0 l0_1).bind fun t233=>(some t233)) else (some ([]:List Int))) = some r:=H
 have A2:=Aside0.mk A20
 clear A20
 by_cases c3:t232 = true
 ·subst c3
  have H1:((impl_chanceClasses.f k l0_0 l0_1).bind fun t233=>(some t233)) = some r:=by rw [if_pos rfl] at H;exact H
  clear H
  have H:=H1
  clear H1
  replace H:=Option.bind_eq_some_iff.mp H
  obtain ⟨t233,A40,H⟩:=H
  replace H:(some t233) = some r:=H
  have A4:=Aside0.mk A40
  clear A40
  obtain rfl:=Option.some.inj H
  go_enter Try.func20,Try.ntmps20
  go_wp2_with (first | ((with_reducible refine gate_dst (N:=1) rfl ?_);refine box_event ?hg (N:=1) ?hd (cs:=#[.slice A0_0 l0_0.length c0_0,.slice A0_1 l0_1.length c0_1]) (t:=28) ?hr ?_;(case hd=>rfl);(case hg=>rfl);(case hr=>first | (go_simp;done) | (go_simp;rfl));intro gb231 hg w5 hbox hb;have n0_:=Aside0.mk (below_step (by repeat (with_reducible first | exact HB.out | apply below_alloc | apply pw_below_drewN | apply below_drew1)) hb);have n1_:=Aside0.mk (hbox);have n2_:=Aside0.mk ((by rw [hg];exact (below_size (by repeat (with_reducible first | exact HB.out | apply below_alloc | apply pw_below_drewN | apply below_drew1))):w.heap.size ≤ gb231));have n3_:=Aside0.mk ((by rw [hg];exact (below_size (by repeat (with_reducible first | exact HB.out | apply below_alloc | apply pw_below_drewN | apply below_drew1))):w.heap.size ≤ gb231));clear HB;have HB:=n0_;have BK231:=n1_;have GW231:=n2_;have GE231:=n3_;clear n0_ n1_ n2_ n3_;clear hb hbox hg;have hcz6_0:w5.cell? ⟨gb231,0,none⟩ = some (.slice A0_0 l0_0.length c0_0):=(blk_cell BK231.out 0).trans rfl;have hcz6_1:w5.cell? ⟨gb231,1,none⟩ = some (.slice A0_1 l0_1.length c0_1):=(blk_cell BK231.out 1).trans rfl;have hfz6_0:=blk_frozen BK231.out 0;have hfz6_1:=blk_frozen BK231.out 1) | ((with_reducible refine gate_callee (f:=16) rfl ?_);refine goesL_ (some 4) rfl rfl Try.func16 (by kernel_rfl) rfl #[.agg #[.slice A0_0 l0_0.length c0_0,.slice A0_1 l0_1.length c0_1]] rfl (by (try simp only [List.map_toArray,List.map_cons,List.map_nil]);first | done | rfl | (simp only [List.length_drop,List.length_take];rfl)) ?_;(with_reducible refine (impl_ChancesOk.calls k _ _ l0_0 _ _ l0_1 true _ ?side1 ?side2 ?side3 ?side4 A2.out).mono ?_);(case side1=>repeat (first | exact (Kd.C_below HR0_0.out HB.out) | (with_reducible refine Kd.C_alloc ?_ _) | (with_reducible refine Kd.C_drewN ?_ _) | (with_reducible refine Kd.C_drew ?_)));(case side2=>exact HC0_0.out);(case side3=>repeat (first | exact (Kd.C_below HR0_1.out HB.out) | (with_reducible refine Kd.C_alloc ?_ _) | (with_reducible refine Kd.C_drewN ?_ _) | (with_reducible refine Kd.C_drew ?_)));(case side4=>exact HC0_1.out);rintro e w7 ⟨rfl,hb⟩;refine ⟨_,rfl,?_⟩;have n0_:=Aside0.mk (blk_below (g:=gb231) (o:=.cells #[.slice A0_0 l0_0.length c0_0,.slice A0_1 l0_1.length c0_1] 28 (0,0)) (by (with_reducible repeat (first | refine blk_drewN ?_ _ | refine blk_drew ?_ | refine blk_alloc ?_ _));exact BK231.out) hb);have n1_:=Aside0.mk (below_step (by repeat (with_reducible first | exact HB.out | apply below_alloc | apply pw_below_drewN | apply below_drew1 | refine below_set ?_ GE231.out)) hb);clear BK231;clear HB;have BK231:=n0_;have HB:=n1_;clear n0_ n1_;(try clear hb);(try clear hb2);(try clear hk);(try clear hi);have hcz8_0:w7.cell? ⟨gb231,0,none⟩ = some (.slice A0_0 l0_0.length c0_0):=(blk_cell BK231.out 0).trans rfl;have hcz8_1:w7.cell? ⟨gb231,1,none⟩ = some (.slice A0_1 l0_1.length c0_1):=(blk_cell BK231.out 1).trans rfl;have hfz8_0:=blk_frozen BK231.out 0;have hfz8_1:=blk_frozen BK231.out 1) | ((with_reducible refine gate_callee (f:=46) rfl ?_);refine goesL_ (some 7) rfl rfl Try.func46 (by kernel_rfl) rfl #[.agg #[.slice A0_0 l0_0.length c0_0,.slice A0_1 l0_1.length c0_1]] rfl (by (try simp only [List.map_toArray,List.map_cons,List.map_nil]);first | done | rfl | (simp only [List.length_drop,List.length_take];rfl)) ?_;(with_reducible refine (impl_chanceClasses.calls k _ _ l0_0 _ _ l0_1 t233 _ ?side1 ?side2 ?side3 ?side4 A4.out).mono ?_);(case side1=>repeat (first | exact (Kd.C_below HR0_0.out HB.out) | (with_reducible refine Kd.C_alloc ?_ _) | (with_reducible refine Kd.C_drewN ?_ _) | (with_reducible refine Kd.C_drew ?_)));(case side2=>exact HC0_0.out);(case side3=>repeat (first | exact (Kd.C_below HR0_1.out HB.out) | (with_reducible refine Kd.C_alloc ?_ _) | (with_reducible refine Kd.C_drewN ?_ _) | (with_reducible refine Kd.C_drew ?_)));(case side4=>exact HC0_1.out);rintro e w9 ⟨v234,rfl,ho0,hb⟩;refine ⟨_,rfl,?_⟩;have n0_:=Aside0.mk (Kd.R_lower ho0 (below_size (by repeat (with_reducible first | exact HB.out | apply below_alloc | apply pw_below_drewN | apply below_drew1 | refine below_set ?_ GE231.out))));have n1_:=Aside0.mk (blk_below (g:=gb231) (o:=.cells #[.slice A0_0 l0_0.length c0_0,.slice A0_1 l0_1.length c0_1] 28 (0,0)) (by (with_reducible repeat (first | refine blk_drewN ?_ _ | refine blk_drew ?_ | refine blk_alloc ?_ _));exact BK231.out) hb);have n2_:=Aside0.mk (below_step (by repeat (with_reducible first | exact HB.out | apply below_alloc | apply pw_below_drewN | apply below_drew1 | refine below_set ?_ GE231.out)) hb);clear BK231;clear HB;have HO235:=n0_;have BK231:=n1_;have HB:=n2_;clear n0_ n1_ n2_;(try clear hb);(try clear hb2);(try clear hk);(try clear hi);(try clear ho0)))
  go_ret
  exact ⟨_,rfl,by exact HO235.out,by exact HB.out⟩
 ·replace c3:=Bool.eq_false_iff.mpr c3
  subst c3
  have H1:(some ([]:List Int)) = some r:=by rw [if_neg (show ¬ (false = true) by decide)] at H;exact H
  clear H
  have H:=H1
  clear H1
  obtain rfl:=Option.some.inj H
  go_enter Try.func20,Try.ntmps20
  go_wp2_with (first | ((with_reducible refine gate_dst (N:=1) rfl ?_);refine box_event ?hg (N:=1) ?hd (cs:=#[.slice A0_0 l0_0.length c0_0,.slice A0_1 l0_1.length c0_1]) (t:=28) ?hr ?_;(case hd=>rfl);(case hg=>rfl);(case hr=>first | (go_simp;done) | (go_simp;rfl));intro gb231 hg w10 hbox hb;have n0_:=Aside0.mk (below_step (by repeat (with_reducible first | exact HB.out | apply below_alloc | apply pw_below_drewN | apply below_drew1)) hb);have n1_:=Aside0.mk (hbox);have n2_:=Aside0.mk ((by rw [hg];exact (below_size (by repeat (with_reducible first | exact HB.out | apply below_alloc | apply pw_below_drewN | apply below_drew1))):w.heap.size ≤ gb231));have n3_:=Aside0.mk ((by rw [hg];exact (below_size (by repeat (with_reducible first | exact HB.out | apply below_alloc | apply pw_below_drewN | apply below_drew1))):w.heap.size ≤ gb231));clear HB;have HB:=n0_;have BK231:=n1_;have GW231:=n2_;have GE231:=n3_;clear n0_ n1_ n2_ n3_;clear hb hbox hg;have hcz11_0:w10.cell? ⟨gb231,0,none⟩ = some (.slice A0_0 l0_0.length c0_0):=(blk_cell BK231.out 0).trans rfl;have hcz11_1:w10.cell? ⟨gb231,1,none⟩ = some (.slice A0_1 l0_1.length c0_1):=(blk_cell BK231.out 1).trans rfl;have hfz11_0:=blk_frozen BK231.out 0;have hfz11_1:=blk_frozen BK231.out 1) | ((with_reducible refine gate_callee (f:=16) rfl ?_);refine goesL_ (some 4) rfl rfl Try.func16 (by kernel_rfl) rfl #[.agg #[.slice A0_0 l0_0.length c0_0,.slice A0_1 l0_1.length c0_1]] rfl (by (try simp only [List.map_toArray,List.map_cons,List.map_nil]);first | done | rfl | (simp only [List.length_drop,List.length_take];rfl)) ?_;(with_reducible refine (impl_ChancesOk.calls k _ _ l0_0 _ _ l0_1 false _ ?side1 ?side2 ?side3 ?side4 A2.out).mono ?_);(case side1=>repeat (first | exact (Kd.C_below HR0_0.out HB.out) | (with_reducible refine Kd.C_alloc ?_ _) | (with_reducible refine Kd.C_drewN ?_ _) | (with_reducible refine Kd.C_drew ?_)));(case side2=>exact HC0_0.out);(case side3=>repeat (first | exact (Kd.C_below HR0_1.out HB.out) | (with_reducible refine Kd.C_alloc ?_ _) | (with_reducible refine Kd.C_drewN ?_ _) | (with_reducible refine Kd.C_drew ?_)));(case side4=>exact HC0_1.out);rintro e w12 ⟨rfl,hb⟩;refine ⟨_,rfl,?_⟩;have n0_:=Aside0.mk (blk_below (g:=gb231) (o:=.cells #[.slice A0_0 l0_0.length c0_0,.slice A0_1 l0_1.length c0_1] 28 (0,0)) (by (with_reducible repeat (first | refine blk_drewN ?_ _ | refine blk_drew ?_ | refine blk_alloc ?_ _));exact BK231.out) hb);have n1_:=Aside0.mk (below_step (by repeat (with_reducible first | exact HB.out | apply below_alloc | apply pw_below_drewN | apply below_drew1 | refine below_set ?_ GE231.out)) hb);clear BK231;clear HB;have BK231:=n0_;have HB:=n1_;clear n0_ n1_;(try clear hb);(try clear hb2);(try clear hk);(try clear hi)))
  go_ret
  exact ⟨_,rfl,Kd.R_nil _ _ _ _ _,by exact HB.out⟩
def spec_DrawChancesFold.f (k:Nat) (l0:List Int):Option (List Int × (List (List Int))):=(spec_l6Open.f l0).bind fun bt616=>((spec_l92Chances.f k bt616.1 bt616.2).bind fun bt619=>(some (bt619.1,bt619.2.1)))
theorem spec_DrawChancesFold.mono:∀ a0 k,LeO (spec_DrawChancesFold.f k a0) (spec_DrawChancesFold.f (k + 1) a0):=by
 intro a0 k
 unfold spec_DrawChancesFold.f
 repeat' first
   | (with_reducible exact spec_l92Chances.mono _ _ _)
   | (with_reducible exact LeO.refl _)
   | (with_reducible exact LeO.none _)
   | (with_reducible refine LeO.ite ?_ ?_)
   | (with_reducible refine LeO.bind ?_ (fun _=>?_))
   | exact spec_l92Chances.mono _ _ _
   | exact LeO.none _
   | refine LeO.ite ?_ ?_
   | refine LeO.bind ?_ (fun _=>?_)
set_option maxHeartbeats 8000000 in
set_option maxRecDepth 100000 in
theorem spec_DrawChancesFold.calls (k:Nat) (A0:Option Addr) (c0:Nat) (l0:List Int) (r1:List Int) (r2:List (List Int)) (w:World) (hr0:Kd.C (Kd.int .u8) w A0 l0.length l0) (hc0:l0.length ≤ c0) (h:spec_DrawChancesFold.f k l0 = some (r1,r2)) :
  Calls Try.prog 34 #[.slice A0 l0.length c0] w fun e w'=>∃ v0_ v1_:Value,e = .returned (.agg #[v0_,v1_])∧Kd.R (Kd.int .i64) 3 w' w.heap.size (fun k_=>(w.heap.size ≤ k_)) v0_ r1∧Kd.N (Kd.slice 3 (Kd.int .i64)) 22 w' w.heap.size (fun k_=>(w.heap.size ≤ k_)∧some k_ ≠ (v0_:Value).ownBlock) v1_ r2∧Below w.heap.size w w':=by
 have hu28:=Try.underlying28
 have HR0:=Aside0.mk hr0
 have HC0:=Aside0.mk hc0
 clear hr0 hc0
 have HB:=Aside0.mk (Below.refl w.heap.size w)
 have H:((spec_l6Open.f l0).bind fun bt616=>((spec_l92Chances.f k bt616.1 bt616.2).bind fun bt619=>(some (bt619.1,bt619.2.1)))) = some (r1,r2):=h
 clear h
 replace H:=Option.bind_eq_some_iff.mp H
 obtain ⟨⟨t616,t617⟩,A20,H⟩:=H
 replace H:((spec_l92Chances.f k t616 t617).bind fun bt619=>(some (bt619.1,bt619.2.1))) = some (r1,r2):=H
 have A2:=Aside0.mk A20
 clear A20
 replace H:=Option.bind_eq_some_iff.mp H
 obtain ⟨⟨t619,t622,t625⟩,A30,H⟩:=H
 replace H:(some (t619,t622)) = some (r1,r2):=H
 have A3:=Aside0.mk A30
 clear A30
 simp only [Option.some.injEq,Prod.mk.injEq] at H
 obtain ⟨rfl,rfl⟩:=H
 go_enter Try.func34,Try.ntmps34
 go_wp2_with (first | ((with_reducible refine gate_dst (N:=2) rfl ?_);refine box_event ?hg (N:=2) ?hd (cs:=#[.slice none 0 0,.slice none 0 0]) (t:=28) ?hr ?_;(case hd=>rfl);(case hg=>rfl);(case hr=>first | (go_simp;done) | (go_simp;rfl));intro gb615 hg w4 hbox hb;have n0_:=Aside0.mk (below_step (by repeat (with_reducible first | exact HB.out | apply below_alloc | apply pw_below_drewN | apply below_drew1)) hb);have n1_:=Aside0.mk (hbox);have n2_:=Aside0.mk ((by rw [hg];exact (below_size (by repeat (with_reducible first | exact HB.out | apply below_alloc | apply pw_below_drewN | apply below_drew1))):w.heap.size ≤ gb615));have n3_:=Aside0.mk ((by rw [hg];exact (below_size (by repeat (with_reducible first | exact HB.out | apply below_alloc | apply pw_below_drewN | apply below_drew1))):w.heap.size ≤ gb615));clear HB;have HB:=n0_;have BK615:=n1_;have GW615:=n2_;have GE615:=n3_;clear n0_ n1_ n2_ n3_;clear hb hbox hg) | ((with_reducible refine gate_callee (f:=44) rfl ?_);refine goesL_ (some 6) rfl rfl Try.func44 (by kernel_rfl) rfl #[.slice A0 l0.length c0] rfl (by (try simp only [List.map_toArray,List.map_cons,List.map_nil]);first | done | rfl | (simp only [List.length_drop,List.length_take];rfl)) ?_;(with_reducible refine (spec_l6Open.calls _ _ l0 t616 t617 w _ ?side1 ?side2 ?side3 A2.out).mono ?_);(case side1=>repeat (with_reducible first | exact HB.out | apply below_alloc | apply pw_below_drewN | apply below_drew1 | refine below_set ?_ GE615.out));(case side2=>exact HR0.out);(case side3=>exact HC0.out);rintro e w5 ⟨g618,rfl,hi,hb,hb2⟩;refine ⟨_,rfl,?_⟩;have n0_:=Aside0.mk (blk_below (g:=gb615) (o:=.cells #[.slice none 0 0,.slice none 0 0] 28 (0,0)) (by (with_reducible repeat (first | refine blk_drewN ?_ _ | refine blk_drew ?_ | refine blk_alloc ?_ _));exact BK615.out) hb2);have n1_:=Aside0.mk (hb);have n2_:=Aside0.mk (hi);have n3_:=Aside0.mk (IsS67.ne_blk hi (blk_below (g:=gb615) (o:=.cells #[.slice none 0 0,.slice none 0 0] 28 (0,0)) (by (with_reducible repeat (first | refine blk_drewN ?_ _ | refine blk_drew ?_ | refine blk_alloc ?_ _));exact BK615.out) hb2) (by decide));have n4_:=Aside0.mk (Ne.symm (IsS67.ne_blk hi (blk_below (g:=gb615) (o:=.cells #[.slice none 0 0,.slice none 0 0] 28 (0,0)) (by (with_reducible repeat (first | refine blk_drewN ?_ _ | refine blk_drew ?_ | refine blk_alloc ?_ _));exact BK615.out) hb2) (by decide)));clear BK615;clear HB;have BK615:=n0_;have HB:=n1_;have HI618:=n2_;have NB618_615:=n3_;have NB615_618:=n4_;clear n0_ n1_ n2_ n3_ n4_;(try clear hb);(try clear hb2);(try clear hk);(try clear hi)) | ((with_reducible refine gate_callee (f:=45) rfl ?_);refine goesL_ (some 8) rfl rfl Try.func45 (by kernel_rfl) rfl #[.pointer (some ⟨g618,0,none⟩)] rfl (by (try simp only [List.map_toArray,List.map_cons,List.map_nil]);first | done | rfl | (simp only [List.length_drop,List.length_take];rfl)) ?_;(with_reducible refine (spec_l92Chances.calls k g618 t616 t617 t619 t622 t625 w _ ?side1 ?side2 A3.out).mono ?_);(case side1=>repeat (with_reducible first | exact HI618.out | apply IsS67.alloc | apply IsS67.drewN | apply IsS67.drew | apply IsS67.set_1 | refine IsS67.far ?_ NB618_615.out _));(case side2=>repeat (with_reducible first | exact HB.out | apply below_alloc | apply pw_below_drewN | apply below_drew1 | refine below_set ?_ (IsS67.ge HI618.out) | refine below_set ?_ GE615.out));rintro e w6 ⟨v620,v623,rfl,ho0,ho1,hi,hb,hk⟩;refine ⟨_,rfl,?_⟩;have n0_:=Aside0.mk (KeepBut.blk hk (g':=gb615) (o:=.cells #[.slice none 0 0,.slice none 0 0] 28 (0,0)) (by (with_reducible repeat (first | refine blk_drewN ?_ _ | refine blk_drew ?_ | refine blk_alloc ?_ _));exact BK615.out) NB615_618.out (by simp));have n1_:=Aside0.mk (Kd.R_lower (Kd.R_newM (M:=fun k_=>(w.heap.size ≤ k_)) (Kd.R_mono (ok':=fun k_=>True) ho0 (fun _ hk_=>trivial)) (below_size (by repeat (with_reducible first | exact HB.out | apply below_alloc | apply pw_below_drewN | apply below_drew1 | refine below_set ?_ (IsS67.ge HI618.out) | refine below_set ?_ GE615.out))) (fun k_ h_=>h_)) (below_size (by repeat (with_reducible first | exact HB.out | apply below_alloc | apply pw_below_drewN | apply below_drew1 | refine below_set ?_ (IsS67.ge HI618.out) | refine below_set ?_ GE615.out))));have n2_:=Aside0.mk (Kd.N_lower (Kd.N_mono (ok':=fun k_=>(w.heap.size ≤ k_)∧some k_ ≠ (v620:Value).ownBlock∧k_ ≠ gb615∧k_ ≠ g618) ho1 (fun k_ hk_=>⟨(Nat.le_trans (below_size (by repeat (with_reducible first | exact HB.out | apply below_alloc | apply pw_below_drewN | apply below_drew1 | refine below_set ?_ (IsS67.ge HI618.out) | refine below_set ?_ GE615.out))) hk_.1),hk_.2,(Kd.freshB (g:=gb615) (o:=.cells #[.slice none 0 0,.slice none 0 0] 28 (0,0)) (by (with_reducible repeat (first | refine blk_drewN ?_ _ | refine blk_drew ?_ | refine blk_alloc ?_ _));exact BK615.out) k_ hk_.1),(IsS67.fresh (by repeat (with_reducible first | exact HI618.out | apply IsS67.alloc | apply IsS67.drewN | apply IsS67.drew | apply IsS67.set_1 | refine IsS67.far ?_ NB618_615.out _)) k_ hk_.1)⟩)) (below_size (by repeat (with_reducible first | exact HB.out | apply below_alloc | apply pw_below_drewN | apply below_drew1 | refine below_set ?_ (IsS67.ge HI618.out) | refine below_set ?_ GE615.out))));have n3_:=Aside0.mk (hb);have n4_:=Aside0.mk (hi);clear BK615;clear HB;clear HI618;have BK615:=n0_;have HO621:=n1_;have HO624:=n2_;have HB:=n3_;have HI618:=n4_;clear n0_ n1_ n2_ n3_ n4_;(try clear hb);(try clear hb2);(try clear hk);(try clear hi);(try clear ho0);(try clear ho1)) | ((with_reducible refine gate_dst (N:=4) rfl ?_);refine box_event ?hg (N:=4) ?hd (cs:=#[.slice none 0 0,.slice none 0 0]) (t:=28) ?hr ?_;(case hd=>rfl);(case hg=>rfl);(case hr=>first | (go_simp;done) | (go_simp;rfl));intro gb626 hg w7 hbox hb;have n0_:=Aside0.mk (Kd.R_below (by (with_reducible repeat (first | apply Kd.R_alloc | apply Kd.R_drewN | apply Kd.R_drew));exact HO621.out) hb);have n1_:=Aside0.mk (Kd.N_below (Kd.N_elderB (by (with_reducible repeat (first | apply Kd.N_alloc | apply Kd.N_drewN | apply Kd.N_drew));exact HO624.out) gb626 (Nat.le_of_eq hg.symm)) hb);have n2_:=Aside0.mk (blk_below (g:=gb615) (o:=.cells #[.slice none 0 0,.slice none 0 0] 28 (0,0)) (by (with_reducible repeat (first | refine blk_drewN ?_ _ | refine blk_drew ?_ | refine blk_alloc ?_ _));exact BK615.out) hb);have n3_:=Aside0.mk (IsS67.below (by repeat (with_reducible first | exact HI618.out | apply IsS67.alloc | apply IsS67.drewN | apply IsS67.drew | apply IsS67.set_1 | refine IsS67.far ?_ NB618_615.out _)) hb);have n4_:=Aside0.mk (below_step (by repeat (with_reducible first | exact HB.out | apply below_alloc | apply pw_below_drewN | apply below_drew1 | refine below_set ?_ (IsS67.ge HI618.out) | refine below_set ?_ GE615.out)) hb);have n5_:=Aside0.mk (hbox);have n6_:=Aside0.mk ((by rw [hg];exact (below_size (by repeat (with_reducible first | exact HB.out | apply below_alloc | apply pw_below_drewN | apply below_drew1 | refine below_set ?_ (IsS67.ge HI618.out) | refine below_set ?_ GE615.out))):w.heap.size ≤ gb626));have n7_:=Aside0.mk ((by rw [hg];exact (below_size (by repeat (with_reducible first | exact HB.out | apply below_alloc | apply pw_below_drewN | apply below_drew1 | refine below_set ?_ (IsS67.ge HI618.out) | refine below_set ?_ GE615.out))):w.heap.size ≤ gb626));have n8_:=Aside0.mk ((by rw [hg];exact Nat.ne_of_lt (blk_lt (g:=gb615) (o:=.cells #[.slice none 0 0,.slice none 0 0] 28 (0,0)) (by (with_reducible repeat (first | refine blk_drewN ?_ _ | refine blk_drew ?_ | refine blk_alloc ?_ _));exact BK615.out)):gb615 ≠ gb626));have n9_:=Aside0.mk ((by rw [hg];exact Nat.ne_of_gt (blk_lt (g:=gb615) (o:=.cells #[.slice none 0 0,.slice none 0 0] 28 (0,0)) (by (with_reducible repeat (first | refine blk_drewN ?_ _ | refine blk_drew ?_ | refine blk_alloc ?_ _));exact BK615.out)):gb626 ≠ gb615));have n10_:=Aside0.mk ((by rw [hg];exact Nat.ne_of_lt (IsS67.lt (show IsS67 w _ g618 t616 t625 from by repeat (with_reducible first | exact HI618.out | apply IsS67.alloc | apply IsS67.drewN | apply IsS67.drew | apply IsS67.set_1 | refine IsS67.far ?_ NB618_615.out _))):g618 ≠ gb626));have n11_:=Aside0.mk ((by rw [hg];exact Nat.ne_of_gt (IsS67.lt (show IsS67 w _ g618 t616 t625 from by repeat (with_reducible first | exact HI618.out | apply IsS67.alloc | apply IsS67.drewN | apply IsS67.drew | apply IsS67.set_1 | refine IsS67.far ?_ NB618_615.out _))):gb626 ≠ g618));clear HO621;clear HO624;clear BK615;clear HI618;clear HB;have HO621:=n0_;have HO624:=n1_;have BK615:=n2_;have HI618:=n3_;have HB:=n4_;have BK626:=n5_;have GW626:=n6_;have GE626:=n7_;have NB615_626:=n8_;have NB626_615:=n9_;have NB618_626:=n10_;have NB626_618:=n11_;clear n0_ n1_ n2_ n3_ n4_ n5_ n6_ n7_ n8_ n9_ n10_ n11_;clear hb hbox hg;obtain ⟨Ao8,co8,eo8⟩:=Kd.R_slice HO621.out;subst eo8;have hnb9:=NB626_615.out;have hnc9:=NB615_626.out;have hnb10:=NB626_618.out;have hnc10:=NB618_626.out;have hcz11_0:w7.cell? ⟨gb626,0,none⟩ = some (.slice none 0 0):=(blk_cell BK626.out 0).trans rfl;have hcz11_1:w7.cell? ⟨gb626,1,none⟩ = some (.slice none 0 0):=(blk_cell BK626.out 1).trans rfl;have hfz11_0:=blk_frozen BK626.out 0;have hfz11_1:=blk_frozen BK626.out 1;obtain ⟨Ao12,co12,eo12⟩:=Kd.N_slice HO624.out;subst eo12;have hnb13:=NB615_618.out;have hnc13:=NB618_615.out;have hcz14_0:w7.cell? ⟨gb615,0,none⟩ = some (.slice none 0 0):=(blk_cell BK615.out 0).trans rfl;have hcz14_1:w7.cell? ⟨gb615,1,none⟩ = some (.slice none 0 0):=(blk_cell BK615.out 1).trans rfl;have hfz14_0:=blk_frozen BK615.out 0;have hfz14_1:=blk_frozen BK615.out 1))
 refine bodyPost_ret (results_cell_row rfl _ _ gb615 28 #[.slice Ao8 t619.length co8,.slice Ao12 t622.length co12] (0,0) _ rfl (by (with_reducible repeat (first | refine blk_drewN ?_ _ | refine blk_drew ?_ | refine blk_alloc ?_ _));refine blk_put (cs:=#[.slice Ao8 t619.length co8,.slice none 0 0]) ?_ 1 _ rfl;(with_reducible repeat (first | refine blk_drewN ?_ _ | refine blk_drew ?_ | refine blk_alloc ?_ _));refine blk_put (cs:=#[.slice none 0 0,.slice none 0 0]) ?_ 0 _ rfl;(with_reducible repeat (first | refine blk_drewN ?_ _ | refine blk_drew ?_ | refine blk_alloc ?_ _));refine blk_far ?_ NB615_626.out _;(with_reducible repeat (first | refine blk_drewN ?_ _ | refine blk_drew ?_ | refine blk_alloc ?_ _));refine blk_far ?_ NB615_626.out _;(with_reducible repeat (first | refine blk_drewN ?_ _ | refine blk_drew ?_ | refine blk_alloc ?_ _));exact BK615.out) Try.underlying28 rfl (by kernel_rfl)) rfl ?_
 exact ⟨_,_,rfl,by exact Kd.R_mono (Kd.R_far (p:=⟨gb615,1,none⟩) (Kd.R_far (p:=⟨gb615,0,none⟩) (Kd.R_far (p:=⟨gb626,1,none⟩) (Kd.R_far (p:=⟨gb626,0,none⟩) (Kd.R_types (Kd.R_types HO621.out BK626.out (by decide)) BK615.out (by decide)) (fun _ hk=>hk.1.2) (.slice Ao8 t619.length co8)) (fun _ hk=>hk.1.2) (.slice Ao12 t622.length co12)) (fun _ hk=>hk.2) (.slice Ao8 t619.length co8)) (fun _ hk=>hk.2) (.slice Ao12 t622.length co12)) (fun _ hk=>hk.1.1.1),by exact Kd.N_mono (Kd.N_far (p:=⟨gb615,1,none⟩) (Kd.N_far (p:=⟨gb615,0,none⟩) (Kd.N_far (p:=⟨gb626,1,none⟩) (Kd.N_far (p:=⟨gb626,0,none⟩) (Kd.N_mono (Kd.N_mono HO624.out (fun k_ hk=>(⟨hk,hk.2⟩:_∧k_ ≠ gb626))) (fun k_ hk=>(⟨hk,hk.1.1.2.2.1⟩:_∧k_ ≠ gb615))) (fun _ hk=>hk.1.2) (.slice Ao8 t619.length co8)) (fun _ hk=>hk.1.2) (.slice Ao12 t622.length co12)) (fun _ hk=>hk.2) (.slice Ao8 t619.length co8)) (fun _ hk=>hk.2) (.slice Ao12 t622.length co12)) (fun _ hk=>⟨hk.1.1.1.1,hk.1.1.1.2.1⟩),by repeat (with_reducible first | exact HB.out | apply below_alloc | apply pw_below_drewN | apply below_drew1 | refine below_set ?_ (IsS67.ge HI618.out) | refine below_set ?_ GE615.out | refine below_set ?_ GE626.out)⟩
end Go.Proofs.Ytablnoddkllhmaa.P
