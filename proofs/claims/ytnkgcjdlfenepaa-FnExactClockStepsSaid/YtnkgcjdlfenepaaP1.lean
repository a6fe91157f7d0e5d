/- What the Go functions that the laws reach compute, and that their calls come to just that: told by a program of this session (aprint.py). No condition. -/
import Derived.Test.YtnkgcjdlfenepaaP0
import Derived.Test.YtnkgcjdlfenepaaCut
namespace Go.Proofs.Ytnkgcjdlfenepaa.P
open Go.RowKit Go.Proofs.YtnkgcjdlfenepaaW.PrintWords Go.Proofs.YtnkgcjdlfenepaaW.PrintLast Go.Proofs.YtnkgcjdlfenepaaW.PrintMore
attribute [local go_sem] max2_int min2_int max_two min_two max_three min_three max_four min_four
set_option linter.unusedVariables false
set_option linter.unusedSimpArgs false
def spec_l6In.f (a0:Int) (a1:Int) (a2:Int):Option (Bool):=if a0 ≥ a1 then (some (decide (a0 ≤ a2))) else (some false)
set_option maxHeartbeats 8000000 in
set_option maxRecDepth 100000 in
theorem spec_l6In.calls (a0:Int) (a1:Int) (a2:Int) (r:Bool) (w:World) (h:spec_l6In.f a0 a1 a2 = some r) :
  Calls Try.prog 39 #[.int .i64 a0,.int .i64 a1,.int .i64 a2] w fun e w'=>e = .returned (.bool r)∧Drawn0 w w':=by
 have H:(if a0 ≥ a1 then (some (decide (a0 ≤ a2))) else (some false)) = some r:=h
 clear h
 by_cases c4:a0 ≥ a1
 ·rw [if_pos c4] at H
  have c4b0:decide (a1 ≤ a0) = true:=decide_eq_true c4
  clear c4
  obtain rfl:=Option.some.inj H
  go_enter Try.func39,Try.ntmps39
  go_wp2
  go_ret
  exact ⟨by first | rfl | (simp;done) | (simp [*];done),by repeat (first | exact Drawn0.refl _ | apply Drawn0.step)⟩
 rw [if_neg c4] at H
 have c4b0:decide (a1 ≤ a0) = false:=decide_eq_false c4
 clear c4
 obtain rfl:=Option.some.inj H
 go_enter Try.func39,Try.ntmps39
 go_wp2
 go_ret
 exact ⟨by first | rfl | (simp;done) | (simp [*];done),by repeat (first | exact Drawn0.refl _ | apply Drawn0.step)⟩
def spec_ActOk.f (a0:Int):Option (Bool):=(spec_l6In.f a0 (-4) 4).bind fun t109=>(some t109)
set_option maxHeartbeats 8000000 in
set_option maxRecDepth 100000 in
theorem spec_ActOk.calls (a0:Int) (r:Bool) (w:World) (h:spec_ActOk.f a0 = some r) :
  Calls Try.prog 57 #[.int .i64 a0] w fun e w'=>e = .returned (.bool r)∧Drawn0 w w':=by
 have H:=h
 clear h
 obtain ⟨t109,A2,H⟩:=bQ H
 replace H:(some t109) = some r:=H
 obtain rfl:=Option.some.inj H
 go_enter Try.func57,Try.ntmps57
 go_wp2_with (first | ((with_reducible refine gate_callee (f:=39) rfl ?_);refine goesL_ (some 4) rfl rfl Try.func39 (by kernel_rfl) rfl #[.int .i64 a0,.int .i64 (-4),.int .i64 4] rfl mP ?_;(with_reducible refine (spec_l6In.calls a0 (-4) 4 t109 _ A2.out).mono ?_);rintro e w' ⟨rfl,⟨nd,rfl⟩⟩;refine ⟨_,rfl,?_⟩))
 go_ret
 exact ⟨by first | rfl | (simp;done) | (simp [*];done),by repeat (first | exact Drawn0.refl _ | apply Drawn0.step)⟩
mutual
def spec_l17Nodes.j0:Nat → Int → Bool → Int → Int → List (S29) → Option (Int)
 | 0,_,_,_,_,_=>none
 | k + 1,x3,x4,x111000,x111001,x111002=>if x4 = true then (spec_l17Nodes.j1 k x3 ((x111002.length:Int) != x3) x111000 x111001 x111002) else (spec_l17Nodes.j1 k x3 true x111000 x111001 x111002)
def spec_l17Nodes.j1:Nat → Int → Bool → Int → Int → List (S29) → Option (Int)
 | 0,_,_,_,_,_=>none
 | k + 1,x3,x36,x111000,x111001,x111002=>if x36 = true then (some 0) else (spec_l17Nodes.l0 k x3 1 0 x111000 x111001 x111002)
def spec_l17Nodes.l0:Nat → Int → Int → Int → Int → Int → List (S29) → Option (Int)
 | 0,_,_,_,_,_,_=>none
 | k + 1,x3,x5,x6,x111000,x111001,x111002=>if x6 < x3 then (if 0 ≤ x6 then (if x6 < (x111002.length:Int) then ((spec_l17Nodes.f k ((rd_T29 x111002 x6).f0) ((rd_T29 x111002 x6).f1) ((rd_T29 x111002 x6).f2)).bind fun t114=>(if t114 = 0 then (some 0) else (spec_l17Nodes.l0 k x3 (mn 1000 (wrap64 (x5 + t114))) (wrap64 (x6 + 1)) x111000 x111001 x111002))) else (none)) else (none)) else (some x5)
def spec_l17Nodes.f:Nat → Int → Int → List (S29) → Option (Int)
 | 0,_,_,_=>none
 | k + 1,a0_0,a0_1,l0_2=>if a0_0 = 0 then (spec_l17Nodes.j0 k 0 (a0_1 == 0) a0_0 a0_1 l0_2) else (if a0_0 = 1 then ((spec_ActOk.f a0_1).bind fun t111=>(spec_l17Nodes.j0 k 1 t111 a0_0 a0_1 l0_2)) else (if a0_0 = 2 then ((spec_l6In.f a0_1 1 9).bind fun t112=>(spec_l17Nodes.j0 k 1 t112 a0_0 a0_1 l0_2)) else (if a0_0 = 3 then (spec_l17Nodes.j0 k 2 (a0_1 == 0) a0_0 a0_1 l0_2) else (if a0_0 = 4 then (spec_l17Nodes.j0 k 2 (a0_1 == 0) a0_0 a0_1 l0_2) else (some 0)))))
end
theorem spec_l17Nodes.mono_l:∀ k,(∀ y0 y1 y2,LeO (spec_l17Nodes.f k y0 y1 y2) (spec_l17Nodes.f (k + 1) y0 y1 y2))∧(∀ y0 y1 y2 y3 y4,LeO (spec_l17Nodes.j0 k y0 y1 y2 y3 y4) (spec_l17Nodes.j0 (k + 1) y0 y1 y2 y3 y4))∧(∀ y0 y1 y2 y3 y4,LeO (spec_l17Nodes.j1 k y0 y1 y2 y3 y4) (spec_l17Nodes.j1 (k + 1) y0 y1 y2 y3 y4))∧(∀ y0 y1 y2 y3 y4 y5,LeO (spec_l17Nodes.l0 k y0 y1 y2 y3 y4 y5) (spec_l17Nodes.l0 (k + 1) y0 y1 y2 y3 y4 y5))
 | 0=>⟨fun _ _ _ r h=>by simp [spec_l17Nodes.f] at h,fun _ _ _ _ _ r h=>by simp [spec_l17Nodes.j0] at h,fun _ _ _ _ _ r h=>by simp [spec_l17Nodes.j1] at h,fun _ _ _ _ _ _ r h=>by simp [spec_l17Nodes.l0] at h⟩
 | k + 1=>by
  obtain ⟨ih0,ih1,ih2,ih3⟩:=spec_l17Nodes.mono_l k
  refine ⟨?_,?_,?_,?_⟩
  ·intro y0 y1 y2
   unfold spec_l17Nodes.f
   repeat' first
   | (with_reducible exact ih0 _ _ _)
   | (with_reducible exact ih1 _ _ _ _ _)
   | (with_reducible exact ih2 _ _ _ _ _)
   | (with_reducible exact ih3 _ _ _ _ _ _)
   | (with_reducible exact LeO.refl _)
   | (with_reducible exact LeO.none _)
   | (with_reducible refine LeO.ite ?_ ?_)
   | (with_reducible refine LeO.bind ?_ (fun _=>?_))
   | exact ih0 _ _ _
   | exact ih1 _ _ _ _ _
   | exact ih2 _ _ _ _ _
   | exact ih3 _ _ _ _ _ _
   | exact LeO.none _
   | refine LeO.ite ?_ ?_
   | refine LeO.bind ?_ (fun _=>?_)
  ·intro y0 y1 y2 y3 y4
   unfold spec_l17Nodes.j0
   repeat' first
   | (with_reducible exact ih0 _ _ _)
   | (with_reducible exact ih1 _ _ _ _ _)
   | (with_reducible exact ih2 _ _ _ _ _)
   | (with_reducible exact ih3 _ _ _ _ _ _)
   | (with_reducible exact LeO.refl _)
   | (with_reducible exact LeO.none _)
   | (with_reducible refine LeO.ite ?_ ?_)
   | (with_reducible refine LeO.bind ?_ (fun _=>?_))
   | exact ih0 _ _ _
   | exact ih1 _ _ _ _ _
   | exact ih2 _ _ _ _ _
   | exact ih3 _ _ _ _ _ _
   | exact LeO.none _
   | refine LeO.ite ?_ ?_
   | refine LeO.bind ?_ (fun _=>?_)
  ·intro y0 y1 y2 y3 y4
   unfold spec_l17Nodes.j1
   repeat' first
   | (with_reducible exact ih0 _ _ _)
   | (with_reducible exact ih1 _ _ _ _ _)
   | (with_reducible exact ih2 _ _ _ _ _)
   | (with_reducible exact ih3 _ _ _ _ _ _)
   | (with_reducible exact LeO.refl _)
   | (with_reducible exact LeO.none _)
   | (with_reducible refine LeO.ite ?_ ?_)
   | (with_reducible refine LeO.bind ?_ (fun _=>?_))
   | exact ih0 _ _ _
   | exact ih1 _ _ _ _ _
   | exact ih2 _ _ _ _ _
   | exact ih3 _ _ _ _ _ _
   | exact LeO.none _
   | refine LeO.ite ?_ ?_
   | refine LeO.bind ?_ (fun _=>?_)
  ·intro y0 y1 y2 y3 y4 y5
   unfold spec_l17Nodes.l0
   repeat' first
   | (with_reducible exact ih0 _ _ _)
   | (with_reducible exact ih1 _ _ _ _ _)
   | (with_reducible exact ih2 _ _ _ _ _)
   | (with_reducible exact ih3 _ _ _ _ _ _)
   | (with_reducible exact LeO.refl _)
   | (with_reducible exact LeO.none _)
   | (with_reducible refine LeO.ite ?_ ?_)
   | (with_reducible refine LeO.bind ?_ (fun _=>?_))
   | exact ih0 _ _ _
   | exact ih1 _ _ _ _ _
   | exact ih2 _ _ _ _ _
   | exact ih3 _ _ _ _ _ _
   | exact LeO.none _
   | refine LeO.ite ?_ ?_
   | refine LeO.bind ?_ (fun _=>?_)
theorem spec_l17Nodes.mono:∀ a0 a1 a2 k,LeO (spec_l17Nodes.f k a0 a1 a2) (spec_l17Nodes.f (k + 1) a0 a1 a2):=by
 intro a0 a1 a2 k
 obtain ⟨ih0,ih1,ih2,ih3⟩:=spec_l17Nodes.mono_l k
 exact ih0 a0 a1 a2
set_option maxHeartbeats 8000000 in
set_option maxRecDepth 100000 in
theorem spec_l17Nodes.calls (k:Nat):∀ (a0_0:Int) (a0_1:Int) (A0_2:Option Addr) (c0_2:Nat) (l0_2:List (S29)) (r:Int) (w:World) (hr0_2:Kd.C k29 w A0_2 l0_2.length l0_2) (hc0_2:l0_2.length ≤ c0_2) (h:spec_l17Nodes.f k a0_0 a0_1 l0_2 = some r),
  Calls Try.prog 40 #[.agg #[.int .i64 a0_0,.int .i64 a0_1,.slice A0_2 l0_2.length c0_2]] w fun e w'=>e = .returned (.int .i64 r)∧Below w.heap.size w w':=by
 induction k using Nat.strongRecOn with
 | _ k ih =>
 intro a0_0 a0_1 A0_2 c0_2 l0_2 r w hr0_2 hc0_2 h
 cases k with
 | zero=>exact absurd h (by simp [spec_l17Nodes.f])
 | succ k =>
 simp only [spec_l17Nodes.f] at h
 have hu29:=Try.underlying29
 have HR0_2:=aQ hr0_2
 have HC0_2:=aQ hc0_2
 clear hr0_2 hc0_2
 have HB:=aQ (Below.refl w.heap.size w)
 have H:=h
 clear h
 have HC2:=aQ H
 clear H
 go_enter Try.func40,Try.ntmps40
 go_upto_block 0 with (first | ((with_reducible refine gate_dst (N:=1) rfl ?_);(try (refine gate_guard (by rfl) ?_;dsimp only));refine box1 (N:=1) (cs:=#[.int .i64 a0_0,.int .i64 a0_1,.slice A0_2 l0_2.length c0_2]) (t:=29) ?_;intro gb110 hg w3 hbox hb;have BK110:=aQ (hbox);have GW110:=aQ (gB:w.heap.size ≤ gb110);have GE110:=GW110;replace HB:=aQ (below_step bB hb);clear hb hbox hg;obtain ⟨hcz4_0,hcz4_1,hcz4_2,hfz4_0,hfz4_1,hfz4_2⟩:=cz3 BK110.out))
 (try simp only [Act.put,List.setIfInBounds_toArray,List.set_cons_zero,List.set_cons_succ])
 go_cut [3,4] (fun v3 v4 wc=>∃ (kq:Nat) (x3_1:Int) (x4_1:Bool),v3 = .int .i64 x3_1∧v4 = .bool x4_1∧Aside0 (spec_l17Nodes.j0 kq x3_1 x4_1 a0_0 a0_1 l0_2 = some r)∧Aside0 (kq ≤ k)∧Aside0 (wc.heap[gb110]? = some (.cells #[.int .i64 a0_0,.int .i64 a0_1,(.slice A0_2 l0_2.length c0_2)] 29 (0,0)))∧Aside0 (Below w.heap.size w wc))
 case first =>
  have H:=HC2.out
  clear HC2
  by_cases c5:a0_0 = 0
  ·rw [if_pos c5] at H
   have c5b0:(a0_0 == 0) = true:=beq_iff_eq.mpr c5
   have c5b1:(a0_0 != 0) = false:=bne_eq_false_iff_eq.mpr c5
   clear c5
   (first | rw [c5b0] | (simp only [i64_w,i32_w];rw [c5b0]) | skip)
   have H':=aQ H
   clear H
   go_wp2
   go_meet
   case rel=>exact ⟨_,(0),((a0_1 == 0)),rfl,rfl,H',⟨by first | omega | exact Nat.le_refl _⟩,⟨nB BK110.out⟩,⟨bB⟩⟩
  rw [if_neg c5] at H
  have c5b0:(a0_0 == 0) = false:=beq_eq_false_iff_ne.mpr c5
  have c5b1:(a0_0 != 0) = true:=bne_iff_ne.mpr c5
  (first | rw [c5b0] | (simp only [i64_w,i32_w];rw [c5b0]) | skip)
  by_cases c6:a0_0 = 1
  ·rw [if_pos c6] at H
   have c6b0:(a0_0 == 1) = true:=beq_iff_eq.mpr c6
   have c6b1:(a0_0 != 1) = false:=bne_eq_false_iff_eq.mpr c6
   clear c6
   obtain ⟨t111,A7,H⟩:=bQ H
   (try dsimp only at H)
   have H':=aQ H
   clear H
   obtain ⟨hcz8_0,hcz8_1,hcz8_2,hfz8_0,hfz8_1,hfz8_2⟩:=cz3 BK110.out
   go_wp2_with (first | ((with_reducible refine gate_callee (f:=57) rfl ?_);refine goesL_ (some 19) rfl rfl Try.func57 (by kernel_rfl) rfl #[.int .i64 a0_1] rfl mP ?_;(with_reducible refine (spec_ActOk.calls a0_1 t111 _ A7.out).mono ?_);rintro e w' ⟨rfl,⟨nd,rfl⟩⟩;refine ⟨_,rfl,?_⟩))
   go_meet
   case rel=>exact ⟨_,(1),(t111),rfl,rfl,H',⟨by first | omega | exact Nat.le_refl _⟩,⟨nB BK110.out⟩,⟨bB⟩⟩
  rw [if_neg c6] at H
  have c6b0:(a0_0 == 1) = false:=beq_eq_false_iff_ne.mpr c6
  have c6b1:(a0_0 != 1) = true:=bne_iff_ne.mpr c6
  by_cases c9:a0_0 = 2
  ·rw [if_pos c9] at H
   have c9b0:(a0_0 == 2) = true:=beq_iff_eq.mpr c9
   have c9b1:(a0_0 != 2) = false:=bne_eq_false_iff_eq.mpr c9
   clear c9
   obtain ⟨t112,A10,H⟩:=bQ H
   (try dsimp only at H)
   have H':=aQ H
   clear H
   obtain ⟨hcz11_0,hcz11_1,hcz11_2,hfz11_0,hfz11_1,hfz11_2⟩:=cz3 BK110.out
   go_wp2_with (first | ((with_reducible refine gate_callee (f:=39) rfl ?_);refine goesL_ (some 24) rfl rfl Try.func39 (by kernel_rfl) rfl #[.int .i64 a0_1,.int .i64 1,.int .i64 9] rfl mP ?_;(with_reducible refine (spec_l6In.calls a0_1 1 9 t112 _ A10.out).mono ?_);rintro e w' ⟨rfl,⟨nd,rfl⟩⟩;refine ⟨_,rfl,?_⟩))
   go_meet
   case rel=>exact ⟨_,(1),(t112),rfl,rfl,H',⟨by first | omega | exact Nat.le_refl _⟩,⟨nB BK110.out⟩,⟨bB⟩⟩
  rw [if_neg c9] at H
  have c9b0:(a0_0 == 2) = false:=beq_eq_false_iff_ne.mpr c9
  have c9b1:(a0_0 != 2) = true:=bne_iff_ne.mpr c9
  by_cases c12:a0_0 = 3
  ·rw [if_pos c12] at H
   have c12b0:(a0_0 == 3) = true:=beq_iff_eq.mpr c12
   have c12b1:(a0_0 != 3) = false:=bne_eq_false_iff_eq.mpr c12
   clear c12
   have H':=aQ H
   clear H
   go_wp2
   go_meet
   case rel=>exact ⟨_,(2),((a0_1 == 0)),rfl,rfl,H',⟨by first | omega | exact Nat.le_refl _⟩,⟨nB BK110.out⟩,⟨bB⟩⟩
  rw [if_neg c12] at H
  have c12b0:(a0_0 == 3) = false:=beq_eq_false_iff_ne.mpr c12
  have c12b1:(a0_0 != 3) = true:=bne_iff_ne.mpr c12
  by_cases c13:a0_0 = 4;rotate_left
  ·rw [if_neg c13] at H
   have c13b0:(a0_0 == 4) = false:=beq_eq_false_iff_ne.mpr c13
   have c13b1:(a0_0 != 4) = true:=bne_iff_ne.mpr c13
   obtain rfl:=Option.some.inj H
   go_wp2
   go_ret
   exact ⟨rfl,bB⟩
  rw [if_pos c13] at H
  have c13b0:(a0_0 == 4) = true:=beq_iff_eq.mpr c13
  have c13b1:(a0_0 != 4) = false:=bne_eq_false_iff_eq.mpr c13
  clear c13
  have H':=aQ H
  clear H
  go_wp2
  go_meet
  case rel=>exact ⟨_,(2),((a0_1 == 0)),rfl,rfl,H',⟨by first | omega | exact Nat.le_refl _⟩,⟨nB BK110.out⟩,⟨bB⟩⟩
 case rest =>
  clear HC2
  try clear hcz4_0
  try clear hcz4_1
  try clear hcz4_2
  try clear hfz4_0
  try clear hfz4_1
  try clear hfz4_2
  obtain ⟨kq,x3_1,x4_1,rfl,rfl,HA,HJ1,BK110,HB⟩:=hcut
  cases kq with
  | zero=>exact absurd HA.out (by simp [spec_l17Nodes.j0])
  | succ kj1 =>
   have H:=HA.out
   clear HA
   simp only [spec_l17Nodes.j0] at H
   have HC14:=aQ H
   clear H
   go_upto_region 15 with (fail)
   go_cut [36] (fun v36 wc=>∃ (kq:Nat) (x36_13:Bool),v36 = .bool x36_13∧Aside0 (spec_l17Nodes.j1 kq x3_1 x36_13 a0_0 a0_1 l0_2 = some r)∧Aside0 (kq ≤ kj1)∧Aside0 (wc.heap[gb110]? = some (.cells #[.int .i64 a0_0,.int .i64 a0_1,(.slice A0_2 l0_2.length c0_2)] 29 (0,0)))∧Aside0 (Below w.heap.size w wc))
   case first =>
    have H:=HC14.out
    clear HC14
    by_cases c15:x4_1 = true
    ·subst c15
     have H1:(spec_l17Nodes.j1 kj1 x3_1 ((l0_2.length:Int) != x3_1) a0_0 a0_1 l0_2) = some r:=by rw [if_pos rfl] at H;exact H
     clear H
     have H:=H1
     clear H1
     have H':=aQ H
     clear H
     obtain ⟨hcz16_0,hcz16_1,hcz16_2,hfz16_0,hfz16_1,hfz16_2⟩:=cz3 BK110.out
     go_wp2
     go_meet
     case rel=>exact ⟨_,(((l0_2.length:Int) != x3_1)),rfl,H',⟨by have:=HJ1.out;first | omega | exact Nat.le_refl _⟩,⟨nB BK110.out⟩,⟨bB⟩⟩
    ·replace c15:=Bool.eq_false_iff.mpr c15
     subst c15
     have H1:(spec_l17Nodes.j1 kj1 x3_1 true a0_0 a0_1 l0_2) = some r:=by rw [if_neg (show ¬ (false = true) by decide)] at H;exact H
     clear H
     have H:=H1
     clear H1
     have H':=aQ H
     clear H
     go_wp2
     go_meet
     case rel=>exact ⟨_,(true),rfl,H',⟨by have:=HJ1.out;first | omega | exact Nat.le_refl _⟩,⟨nB BK110.out⟩,⟨bB⟩⟩
   case rest =>
    clear HC14
    obtain ⟨kq,x36_13,rfl,HA,HJ13,BK110,HB⟩:=hcut
    cases kq with
    | zero=>exact absurd HA.out (by simp [spec_l17Nodes.j1])
    | succ kj13 =>
     have H:=HA.out
     clear HA
     simp only [spec_l17Nodes.j1] at H
     by_cases c17:x36_13 = true
     ·subst c17
      have H1:(some 0) = some r:=by rw [if_pos rfl] at H;exact H
      clear H
      have H:=H1
      clear H1
      obtain rfl:=Option.some.inj H
      go_wp2
      go_ret
      exact ⟨rfl,bB⟩
     ·replace c17:=Bool.eq_false_iff.mpr c17
      subst c17
      have H1:(spec_l17Nodes.l0 kj13 x3_1 1 0 a0_0 a0_1 l0_2) = some r:=by rw [if_neg (show ¬ (false = true) by decide)] at H;exact H
      clear H
      have H:=H1
      clear H1
      have H':=aQ H
      clear H
      go_wp2
      go_loopg [5,6] kj13 (fun kq v5 v6 w'=>∃ (x5_3:Int) (x6_3:Int),v5 = .int .i64 x5_3∧v6 = .int .i64 x6_3∧Aside0 (spec_l17Nodes.l0 kq x3_1 x5_3 x6_3 a0_0 a0_1 l0_2 = some r)∧Aside0 (kq ≤ kj13)∧Aside0 (w'.heap[gb110]? = some (.cells #[.int .i64 a0_0,.int .i64 a0_1,(.slice A0_2 l0_2.length c0_2)] 29 (0,0)))∧Aside0 (Below w.heap.size w w'))
      case atStart=>exact ⟨(1),(0),rfl,rfl,H',⟨Nat.le_refl _⟩,⟨nB BK110.out⟩,⟨bB⟩⟩
      case round =>
       clear H'
       repeat (first | clear BK110 | clear HB)
       obtain ⟨x5_3,x6_3,rfl,rfl,HA,HK3,BK110,HB⟩:=hrel
       cases gk with
       | zero=>exact absurd HA.out (by simp [spec_l17Nodes.l0])
       | succ k3 =>
        have H:=HA.out
        clear HA
        simp only [spec_l17Nodes.l0] at H
        by_cases c18:x6_3 < x3_1;rotate_left
        ·rw [if_neg c18] at H
         have c18b0:decide (x6_3 < x3_1) = false:=decide_eq_false c18
         clear c18
         obtain rfl:=Option.some.inj H
         go_wp2
         go_ret
         exact ⟨rfl,bB⟩
        rw [if_pos c18] at H
        have c18b0:decide (x6_3 < x3_1) = true:=decide_eq_true c18
        clear c18
        by_cases c19:0 ≤ x6_3;rotate_left
        ·rw [if_neg c19] at H
         exact absurd H (by simp)
        rw [if_pos c19] at H
        have c19b0:decide (0 ≤ x6_3) = true:=decide_eq_true c19
        clear c19
        by_cases c20:x6_3 < (l0_2.length:Int);rotate_left
        ·rw [if_neg c20] at H
         exact absurd H (by simp)
        rw [if_pos c20] at H
        have c20b0:decide (x6_3 < (l0_2.length:Int)) = true:=decide_eq_true c20
        clear c20
        obtain ⟨t114,A21,H⟩:=bQ H
        (try dsimp only at H)
        by_cases c22:t114 = 0
        ·rw [if_pos c22] at H
         have c22b0:(t114 == 0) = true:=beq_iff_eq.mpr c22
         have c22b1:(t114 != 0) = false:=bne_eq_false_iff_eq.mpr c22
         clear c22
         obtain rfl:=Option.some.inj H
         obtain ⟨hcz23_0,hcz23_1,hcz23_2,hfz23_0,hfz23_1,hfz23_2⟩:=cz3 BK110.out
         have p113:0 ≤ (x6_3:Int):=of_decide_eq_true (by first | (with_reducible assumption) | assumption)
         have q113:x6_3 < (l0_2.length:Int):=of_decide_eq_true (by first | (with_reducible assumption) | assumption)
         obtain ⟨ad113,A113_2,c113_2,e113,hx113_0,hx113_1,hx113_2,hl113_2,hi113_2⟩:=at_T29 HR0_2.out x6_3 p113 q113
         cases e113
         replace hx113_0:=(HB.out.cell (World.block_lt_of_cell? w _ hx113_0)).trans hx113_0
         replace hx113_1:=(HB.out.cell (World.block_lt_of_cell? w _ hx113_1)).trans hx113_1
         replace hx113_2:=(HB.out.cell (World.block_lt_of_cell? w _ hx113_2)).trans hx113_2
         have HR113_2:=aQ hi113_2
         have HC113_2:=aQ hl113_2
         clear hi113_2 hl113_2
         replace p113:=eq_true p113
         replace q113:=eq_true q113
         go_wp2_with (first | ((with_reducible refine gate_callee (f:=40) rfl ?_);refine goesL_ (some 47) rfl rfl Try.func40 (by kernel_rfl) rfl #[.agg #[.int .i64 ((rd_T29 l0_2 x6_3).f0),.int .i64 ((rd_T29 l0_2 x6_3).f1),.slice A113_2 ((rd_T29 l0_2 x6_3).f2).length c113_2]] rfl mP ?_;(with_reducible refine (ih k3 (by have:=HJ1.out;have:=HJ13.out;have:=HK3.out;omega) ((rd_T29 l0_2 x6_3).f0) ((rd_T29 l0_2 x6_3).f1) _ _ ((rd_T29 l0_2 x6_3).f2) t114 _ ?side1 ?side2 A21.out).mono ?_);(case side1=>repeat (first | exact (Kd.C_below HR113_2.out HB.out) | (with_reducible refine Kd.C_alloc ?_ _) | (with_reducible refine Kd.C_drewN ?_ _) | (with_reducible refine Kd.C_drew ?_)));(case side2=>exact HC113_2.out);rintro e w24 ⟨rfl,hb⟩;refine ⟨_,rfl,?_⟩;replace BK110:=aQ (blk_below (nB BK110.out) hb);replace HB:=aQ (below_step bB hb);(try clear hb)))
         go_ret
         exact ⟨rfl,bB⟩
        rw [if_neg c22] at H
        have c22b0:(t114 == 0) = false:=beq_eq_false_iff_ne.mpr c22
        have c22b1:(t114 != 0) = true:=bne_iff_ne.mpr c22
        obtain ⟨ji25,hji25⟩:∃ j_:Int,(mn 1000 (wrap64 (x5_3 + t114))) = j_:=⟨_,rfl⟩
        replace H:(spec_l17Nodes.l0 k3 x3_1 ji25 (wrap64 (x6_3 + 1)) a0_0 a0_1 l0_2) = some r:=by first | (rw [hji25] at H;exact H) | (simp only [hji25] at H ⊢;exact H)
        (try rw [hji25] at A21)
        have hji25_:(if (wrap64 (x5_3 + t114)) < 1000 then (wrap64 (x5_3 + t114)) else 1000) = ji25:=hji25
        have H':=aQ H
        clear H
        obtain ⟨hcz26_0,hcz26_1,hcz26_2,hfz26_0,hfz26_1,hfz26_2⟩:=cz3 BK110.out
        have p113:0 ≤ (x6_3:Int):=of_decide_eq_true (by first | (with_reducible assumption) | assumption)
        have q113:x6_3 < (l0_2.length:Int):=of_decide_eq_true (by first | (with_reducible assumption) | assumption)
        obtain ⟨ad113,A113_2,c113_2,e113,hx113_0,hx113_1,hx113_2,hl113_2,hi113_2⟩:=at_T29 HR0_2.out x6_3 p113 q113
        cases e113
        replace hx113_0:=(HB.out.cell (World.block_lt_of_cell? w _ hx113_0)).trans hx113_0
        replace hx113_1:=(HB.out.cell (World.block_lt_of_cell? w _ hx113_1)).trans hx113_1
        replace hx113_2:=(HB.out.cell (World.block_lt_of_cell? w _ hx113_2)).trans hx113_2
        have HR113_2:=aQ hi113_2
        have HC113_2:=aQ hl113_2
        clear hi113_2 hl113_2
        replace p113:=eq_true p113
        replace q113:=eq_true q113
        go_wp2_with (first | ((with_reducible refine gate_callee (f:=40) rfl ?_);refine goesL_ (some 47) rfl rfl Try.func40 (by kernel_rfl) rfl #[.agg #[.int .i64 ((rd_T29 l0_2 x6_3).f0),.int .i64 ((rd_T29 l0_2 x6_3).f1),.slice A113_2 ((rd_T29 l0_2 x6_3).f2).length c113_2]] rfl mP ?_;(with_reducible refine (ih k3 (by have:=HJ1.out;have:=HJ13.out;have:=HK3.out;omega) ((rd_T29 l0_2 x6_3).f0) ((rd_T29 l0_2 x6_3).f1) _ _ ((rd_T29 l0_2 x6_3).f2) t114 _ ?side1 ?side2 A21.out).mono ?_);(case side1=>repeat (first | exact (Kd.C_below HR113_2.out HB.out) | (with_reducible refine Kd.C_alloc ?_ _) | (with_reducible refine Kd.C_drewN ?_ _) | (with_reducible refine Kd.C_drew ?_)));(case side2=>exact HC113_2.out);rintro e w27 ⟨rfl,hb⟩;refine ⟨_,rfl,?_⟩;replace BK110:=aQ (blk_below (nB BK110.out) hb);replace HB:=aQ (below_step bB hb);(try clear hb)))
        go_roundg k3
        case measure=>have:=HJ1.out;have:=HJ13.out;have:=HK3.out;omega
        case rel=>exact ⟨(ji25),(wrap64 (x6_3 + 1)),(by first | rfl | (simp;done) | (simp only [← hji25] <;> (first | rfl | simp)) | (simp [*];done)),rfl,H',⟨by have:=HJ1.out;have:=HJ13.out;have:=HK3.out;omega⟩,⟨nB BK110.out⟩,⟨bB⟩⟩
def spec_ClockOk.f (k:Nat) (a0_0:Int) (a0_1:Int) (l0_2:List (S29)):Option (Bool):=(spec_l17Nodes.f k a0_0 a0_1 l0_2).bind fun t116=>((spec_l6In.f t116 1 16).bind fun t117=>(some t117))
theorem spec_ClockOk.mono:∀ a0 a1 a2 k,LeO (spec_ClockOk.f k a0 a1 a2) (spec_ClockOk.f (k + 1) a0 a1 a2):=by
 intro a0 a1 a2 k
 unfold spec_ClockOk.f
 repeat' first
   | (with_reducible exact spec_l17Nodes.mono _ _ _ _)
   | (with_reducible exact LeO.refl _)
   | (with_reducible exact LeO.none _)
   | (with_reducible refine LeO.ite ?_ ?_)
   | (with_reducible refine LeO.bind ?_ (fun _=>?_))
   | exact spec_l17Nodes.mono _ _ _ _
   | exact LeO.none _
   | refine LeO.ite ?_ ?_
   | refine LeO.bind ?_ (fun _=>?_)
set_option maxHeartbeats 8000000 in
set_option maxRecDepth 100000 in
theorem spec_ClockOk.calls (k:Nat) (a0_0:Int) (a0_1:Int) (A0_2:Option Addr) (c0_2:Nat) (l0_2:List (S29)) (r:Bool) (w:World) (hr0_2:Kd.C k29 w A0_2 l0_2.length l0_2) (hc0_2:l0_2.length ≤ c0_2) (h:spec_ClockOk.f k a0_0 a0_1 l0_2 = some r) :
  Calls Try.prog 14 #[.agg #[.int .i64 a0_0,.int .i64 a0_1,.slice A0_2 l0_2.length c0_2]] w fun e w'=>e = .returned (.bool r)∧Below w.heap.size w w':=by
 have hu29:=Try.underlying29
 have HR0_2:=aQ hr0_2
 have HC0_2:=aQ hc0_2
 clear hr0_2 hc0_2
 have HB:=aQ (Below.refl w.heap.size w)
 have H:=h
 clear h
 obtain ⟨t116,A2,H⟩:=bQ H
 (try dsimp only at H)
 obtain ⟨t117,A3,H⟩:=bQ H
 replace H:(some t117) = some r:=H
 obtain rfl:=Option.some.inj H
 go_enter Try.func14,Try.ntmps14
 go_wp2_with (first | ((with_reducible refine gate_dst (N:=1) rfl ?_);refine box1 (N:=1) (cs:=#[.int .i64 a0_0,.int .i64 a0_1,.slice A0_2 l0_2.length c0_2]) (t:=29) ?_;intro gb115 hg w4 hbox hb;have BK115:=aQ (hbox);have GW115:=aQ (gB:w.heap.size ≤ gb115);have GE115:=GW115;replace HB:=aQ (below_step bB hb);clear hb hbox hg;obtain ⟨hcz5_0,hcz5_1,hcz5_2,hfz5_0,hfz5_1,hfz5_2⟩:=cz3 BK115.out) | ((with_reducible refine gate_callee (f:=40) rfl ?_);refine goesL_ (some 4) rfl rfl Try.func40 (by kernel_rfl) rfl #[.agg #[.int .i64 a0_0,.int .i64 a0_1,.slice A0_2 l0_2.length c0_2]] rfl mP ?_;(with_reducible refine (spec_l17Nodes.calls k a0_0 a0_1 _ _ l0_2 t116 _ ?side1 ?side2 A2.out).mono ?_);(case side1=>repeat (first | exact (Kd.C_below HR0_2.out HB.out) | (with_reducible refine Kd.C_alloc ?_ _) | (with_reducible refine Kd.C_drewN ?_ _) | (with_reducible refine Kd.C_drew ?_)));(case side2=>exact HC0_2.out);rintro e w6 ⟨rfl,hb⟩;refine ⟨_,rfl,?_⟩;replace BK115:=aQ (blk_below (nB BK115.out) hb);replace HB:=aQ (below_step bB hb);(try clear hb)) | ((with_reducible refine gate_callee (f:=39) rfl ?_);refine goesL_ (some 5) rfl rfl Try.func39 (by kernel_rfl) rfl #[.int .i64 t116,.int .i64 1,.int .i64 16] rfl mP ?_;(with_reducible refine (spec_l6In.calls t116 1 16 t117 _ A3.out).mono ?_);rintro e w' ⟨rfl,⟨nd,rfl⟩⟩;refine ⟨_,rfl,?_⟩))
 go_ret
 exact ⟨rfl,bB⟩
mutual
def impl_clockNodes.l0:Nat → Int → Int → List (S29) → Int → Int → Option (Int)
 | 0,_,_,_,_,_=>none
 | k + 1,x1,x5,x9,x10,x11=>if x11 < x10 then (if 0 ≤ x11 then (if x11 < (x9.length:Int) then (if x5 > x1 then (some x5) else ((impl_clockNodes.f k ((rd_T29 x9 x11).f0) ((rd_T29 x9 x11).f1) ((rd_T29 x9 x11).f2) (wrap64 (x1 - x5))).bind fun t153=>(impl_clockNodes.l0 k x1 (wrap64 (x5 + t153)) x9 x10 (wrap64 (x11 + 1))))) else (none)) else (none)) else (some x5)
def impl_clockNodes.f:Nat → Int → Int → List (S29) → Int → Option (Int)
 | 0,_,_,_,_=>none
 | k + 1,a0_0,a0_1,l0_2,a1=>impl_clockNodes.l0 k a1 1 l0_2 (l0_2.length:Int) 0
end
theorem impl_clockNodes.mono_l:∀ k,(∀ y0 y1 y2 y3,LeO (impl_clockNodes.f k y0 y1 y2 y3) (impl_clockNodes.f (k + 1) y0 y1 y2 y3))∧(∀ y0 y1 y2 y3 y4,LeO (impl_clockNodes.l0 k y0 y1 y2 y3 y4) (impl_clockNodes.l0 (k + 1) y0 y1 y2 y3 y4))
 | 0=>⟨fun _ _ _ _ r h=>by simp [impl_clockNodes.f] at h,fun _ _ _ _ _ r h=>by simp [impl_clockNodes.l0] at h⟩
 | k + 1=>by
  obtain ⟨ih0,ih1⟩:=impl_clockNodes.mono_l k
  refine ⟨?_,?_⟩
  ·intro y0 y1 y2 y3
   unfold impl_clockNodes.f
   repeat' first
   | (with_reducible exact ih0 _ _ _ _)
   | (with_reducible exact ih1 _ _ _ _ _)
   | (with_reducible exact LeO.refl _)
   | (with_reducible exact LeO.none _)
   | (with_reducible refine LeO.ite ?_ ?_)
   | (with_reducible refine LeO.bind ?_ (fun _=>?_))
   | exact ih0 _ _ _ _
   | exact ih1 _ _ _ _ _
   | exact LeO.none _
   | refine LeO.ite ?_ ?_
   | refine LeO.bind ?_ (fun _=>?_)
  ·intro y0 y1 y2 y3 y4
   unfold impl_clockNodes.l0
   repeat' first
   | (with_reducible exact ih0 _ _ _ _)
   | (with_reducible exact ih1 _ _ _ _ _)
   | (with_reducible exact LeO.refl _)
   | (with_reducible exact LeO.none _)
   | (with_reducible refine LeO.ite ?_ ?_)
   | (with_reducible refine LeO.bind ?_ (fun _=>?_))
   | exact ih0 _ _ _ _
   | exact ih1 _ _ _ _ _
   | exact LeO.none _
   | refine LeO.ite ?_ ?_
   | refine LeO.bind ?_ (fun _=>?_)
theorem impl_clockNodes.mono:∀ a0 a1 a2 a3 k,LeO (impl_clockNodes.f k a0 a1 a2 a3) (impl_clockNodes.f (k + 1) a0 a1 a2 a3):=by
 intro a0 a1 a2 a3 k
 obtain ⟨ih0,ih1⟩:=impl_clockNodes.mono_l k
 exact ih0 a0 a1 a2 a3
set_option maxHeartbeats 8000000 in
set_option maxRecDepth 100000 in
theorem impl_clockNodes.calls (k:Nat):∀ (a0_0:Int) (a0_1:Int) (A0_2:Option Addr) (c0_2:Nat) (l0_2:List (S29)) (a1:Int) (r:Int) (w:World) (hr0_2:Kd.C k29 w A0_2 l0_2.length l0_2) (hc0_2:l0_2.length ≤ c0_2) (h:impl_clockNodes.f k a0_0 a0_1 l0_2 a1 = some r),
  Calls Try.prog 42 #[.agg #[.int .i64 a0_0,.int .i64 a0_1,.slice A0_2 l0_2.length c0_2],.int .i64 a1] w fun e w'=>e = .returned (.int .i64 r)∧Below w.heap.size w w':=by
 induction k using Nat.strongRecOn with
 | _ k ih =>
 intro a0_0 a0_1 A0_2 c0_2 l0_2 a1 r w hr0_2 hc0_2 h
 cases k with
 | zero=>exact absurd h (by simp [impl_clockNodes.f])
 | succ k =>
 simp only [impl_clockNodes.f] at h
 have hu29:=Try.underlying29
 have HR0_2:=aQ hr0_2
 have HC0_2:=aQ hc0_2
 clear hr0_2 hc0_2
 have HB:=aQ (Below.refl w.heap.size w)
 have H:=h
 clear h
 have H':=aQ H
 clear H
 go_enter Try.func42,Try.ntmps42
 go_wp2_with (first | ((with_reducible refine gate_dst (N:=2) rfl ?_);refine box1 (N:=2) (cs:=#[.int .i64 a0_0,.int .i64 a0_1,.slice A0_2 l0_2.length c0_2]) (t:=29) ?_;intro gb150 hg w3 hbox hb;have BK150:=aQ (hbox);have GW150:=aQ (gB:w.heap.size ≤ gb150);have GE150:=GW150;replace HB:=aQ (below_step bB hb);clear hb hbox hg;obtain ⟨hcz4_0,hcz4_1,hcz4_2,hfz4_0,hfz4_1,hfz4_2⟩:=cz3 BK150.out))
 go_loopg [5,11] k (fun kq v5 v11 w'=>∃ (x5_1:Int) (x11_1:Int),v5 = .int .i64 x5_1∧v11 = .int .i64 x11_1∧Aside0 (impl_clockNodes.l0 kq a1 x5_1 l0_2 (l0_2.length:Int) x11_1 = some r)∧Aside0 (kq ≤ k)∧Aside0 (w'.heap[gb150]? = some (.cells #[.int .i64 a0_0,.int .i64 a0_1,(.slice A0_2 l0_2.length c0_2)] 29 (0,0)))∧Aside0 (Below w.heap.size w w'))
 case atStart=>exact ⟨(1),(0),rfl,rfl,H',⟨Nat.le_refl _⟩,⟨nB BK150.out⟩,⟨bB⟩⟩
 case round =>
  clear H'
  try clear hcz4_0
  try clear hcz4_1
  try clear hcz4_2
  try clear hfz4_0
  try clear hfz4_1
  try clear hfz4_2
  repeat (first | clear BK150 | clear HB)
  obtain ⟨x5_1,x11_1,rfl,rfl,HA,HK1,BK150,HB⟩:=hrel
  cases gk with
  | zero=>exact absurd HA.out (by simp [impl_clockNodes.l0])
  | succ k1 =>
   have H:=HA.out
   clear HA
   simp only [impl_clockNodes.l0] at H
   by_cases c5:x11_1 < (l0_2.length:Int);rotate_left
   ·rw [if_neg c5] at H
    have c5b0:decide (x11_1 < (l0_2.length:Int)) = false:=decide_eq_false c5
    clear c5
    obtain rfl:=Option.some.inj H
    go_wp2
    go_ret
    exact ⟨rfl,bB⟩
   rw [if_pos c5] at H
   have c5b0:decide (x11_1 < (l0_2.length:Int)) = true:=decide_eq_true c5
   clear c5
   by_cases c6:0 ≤ x11_1;rotate_left
   ·rw [if_neg c6] at H
    exact absurd H (by simp)
   rw [if_pos c6] at H
   have c6b0:decide (0 ≤ x11_1) = true:=decide_eq_true c6
   clear c6
   by_cases c7:x11_1 < (l0_2.length:Int);rotate_left
   ·rw [if_neg c7] at H
    exact absurd H (by simp)
   rw [if_pos c7] at H
   have c7b0:decide (x11_1 < (l0_2.length:Int)) = true:=decide_eq_true c7
   clear c7
   by_cases c8:x5_1 > a1
   ·rw [if_pos c8] at H
    have c8b0:decide (a1 < x5_1) = true:=decide_eq_true c8
    clear c8
    obtain rfl:=Option.some.inj H
    have p151:0 ≤ (x11_1:Int):=of_decide_eq_true (by first | (with_reducible assumption) | assumption)
    have q151:x11_1 < (l0_2.length:Int):=of_decide_eq_true (by first | (with_reducible assumption) | assumption)
    obtain ⟨ad151,A151_2,c151_2,e151,hx151_0,hx151_1,hx151_2,hl151_2,hi151_2⟩:=at_T29 HR0_2.out x11_1 p151 q151
    cases e151
    replace hx151_0:=(HB.out.cell (World.block_lt_of_cell? w _ hx151_0)).trans hx151_0
    replace hx151_1:=(HB.out.cell (World.block_lt_of_cell? w _ hx151_1)).trans hx151_1
    replace hx151_2:=(HB.out.cell (World.block_lt_of_cell? w _ hx151_2)).trans hx151_2
    have HR151_2:=aQ hi151_2
    have HC151_2:=aQ hl151_2
    clear hi151_2 hl151_2
    replace p151:=eq_true p151
    replace q151:=eq_true q151
    go_wp2_with (first | ((with_reducible refine gate_dst (N:=7) rfl ?_);refine box1 (N:=7) (cs:=#[.int .i64 0,.int .i64 0,.slice none 0 0]) (t:=29) ?_;intro gb152 hg w9 hbox hb;have BK152:=aQ (hbox);have GW152:=aQ (gB:w.heap.size ≤ gb152);have GE152:=GW152;replace HB:=aQ (below_step bB hb);have NB150_152:=aQ ((by rw [hg];exact Nat.ne_of_lt (blk_lt (nB BK150.out)):gb150 ≠ gb152));have NB152_150:=aQ NB150_152.out.symm;replace BK150:=aQ (blk_below (nB BK150.out) hb);clear hb hbox hg;have hnb10:=NB152_150.out;have hnc10:=NB150_152.out;obtain ⟨hcz11_0,hcz11_1,hcz11_2,hfz11_0,hfz11_1,hfz11_2⟩:=cz3 BK152.out))
    go_ret
    exact ⟨rfl,bB⟩
   rw [if_neg c8] at H
   have c8b0:decide (a1 < x5_1) = false:=decide_eq_false c8
   clear c8
   obtain ⟨t153,A12,H⟩:=bQ H
   (try dsimp only at H)
   have H':=aQ H
   clear H
   have p151:0 ≤ (x11_1:Int):=of_decide_eq_true (by first | (with_reducible assumption) | assumption)
   have q151:x11_1 < (l0_2.length:Int):=of_decide_eq_true (by first | (with_reducible assumption) | assumption)
   obtain ⟨ad151,A151_2,c151_2,e151,hx151_0,hx151_1,hx151_2,hl151_2,hi151_2⟩:=at_T29 HR0_2.out x11_1 p151 q151
   cases e151
   replace hx151_0:=(HB.out.cell (World.block_lt_of_cell? w _ hx151_0)).trans hx151_0
   replace hx151_1:=(HB.out.cell (World.block_lt_of_cell? w _ hx151_1)).trans hx151_1
   replace hx151_2:=(HB.out.cell (World.block_lt_of_cell? w _ hx151_2)).trans hx151_2
   have HR151_2:=aQ hi151_2
   have HC151_2:=aQ hl151_2
   clear hi151_2 hl151_2
   replace p151:=eq_true p151
   replace q151:=eq_true q151
   go_wp2_with (first | ((with_reducible refine gate_dst (N:=7) rfl ?_);refine box1 (N:=7) (cs:=#[.int .i64 0,.int .i64 0,.slice none 0 0]) (t:=29) ?_;intro gb152 hg w13 hbox hb;have BK152:=aQ (hbox);have GW152:=aQ (gB:w.heap.size ≤ gb152);have GE152:=GW152;replace HB:=aQ (below_step bB hb);have NB150_152:=aQ ((by rw [hg];exact Nat.ne_of_lt (blk_lt (nB BK150.out)):gb150 ≠ gb152));have NB152_150:=aQ NB150_152.out.symm;replace BK150:=aQ (blk_below (nB BK150.out) hb);clear hb hbox hg;have hnb14:=NB152_150.out;have hnc14:=NB150_152.out;obtain ⟨hcz15_0,hcz15_1,hcz15_2,hfz15_0,hfz15_1,hfz15_2⟩:=cz3 BK152.out) | ((with_reducible refine gate_callee (f:=42) rfl ?_);refine goesL_ (some 24) rfl rfl Try.func42 (by kernel_rfl) rfl #[.agg #[.int .i64 ((rd_T29 l0_2 x11_1).f0),.int .i64 ((rd_T29 l0_2 x11_1).f1),.slice A151_2 ((rd_T29 l0_2 x11_1).f2).length c151_2],.int .i64 (wrap64 (a1 - x5_1))] rfl mP ?_;(with_reducible refine (ih k1 (by have:=HK1.out;omega) ((rd_T29 l0_2 x11_1).f0) ((rd_T29 l0_2 x11_1).f1) _ _ ((rd_T29 l0_2 x11_1).f2) (wrap64 (a1 - x5_1)) t153 _ ?side1 ?side2 A12.out).mono ?_);(case side1=>exact Kd.C_below HR151_2.out bB);(case side2=>exact HC151_2.out);rintro e w16 ⟨rfl,hb⟩;refine ⟨_,rfl,?_⟩;replace BK150:=aQ (blk_below (g:=gb150) (o:=.cells #[.int .i64 a0_0,.int .i64 a0_1,.slice (some ad151) l0_2.length c0_2] 29 (0,0)) bF hb);replace BK152:=aQ (blk_below (g:=gb152) (o:=.cells #[.int .i64 ((rd_T29 l0_2 x11_1).f0),.int .i64 ((rd_T29 l0_2 x11_1).f1),.slice A151_2 ((rd_T29 l0_2 x11_1).f2).length c151_2] 29 (0,0)) bP hb);replace HB:=aQ (below_step bB hb);(try clear hb)))
   go_roundg k1
   case measure=>have:=HK1.out;omega
   case rel=>exact ⟨(wrap64 (x5_1 + t153)),(wrap64 (x11_1 + 1)),rfl,rfl,H',⟨by have:=HK1.out;omega⟩,⟨nB BK150.out⟩,⟨bB⟩⟩
def impl_ActOk.f (a0:Int):Option (Bool):=if a0 ≥ (-4) then (some (decide (a0 ≤ 4))) else (some false)
set_option maxHeartbeats 8000000 in
set_option maxRecDepth 100000 in
theorem impl_ActOk.calls (a0:Int) (r:Bool) (w:World) (h:impl_ActOk.f a0 = some r) :
  Calls Try.prog 58 #[.int .i64 a0] w fun e w'=>e = .returned (.bool r)∧Drawn0 w w':=by
 have H:(if a0 ≥ (-4) then (some (decide (a0 ≤ 4))) else (some false)) = some r:=h
 clear h
 by_cases c2:a0 ≥ (-4)
 ·rw [if_pos c2] at H
  have c2b0:decide ((-4) ≤ a0) = true:=decide_eq_true c2
  clear c2
  obtain rfl:=Option.some.inj H
  go_enter Try.func58,Try.ntmps58
  go_wp2
  go_ret
  exact ⟨by first | rfl | (simp;done) | (simp [*];done),by repeat (first | exact Drawn0.refl _ | apply Drawn0.step)⟩
 rw [if_neg c2] at H
 have c2b0:decide ((-4) ≤ a0) = false:=decide_eq_false c2
 clear c2
 obtain rfl:=Option.some.inj H
 go_enter Try.func58,Try.ntmps58
 go_wp2
 go_ret
 exact ⟨by first | rfl | (simp;done) | (simp [*];done),by repeat (first | exact Drawn0.refl _ | apply Drawn0.step)⟩
def impl_beside.f (a0_0:Int) (a0_1:Int) (l0_2:List (S29)) (a1_0:Int) (a1_1:Int) (l1_2:List (S29)):Option (Int × Int × (List (S29))):=some (4,0,(([(⟨a0_0,a0_1,l0_2⟩:S29),(⟨a1_0,a1_1,l1_2⟩:S29)]:List (S29))))
set_option maxHeartbeats 8000000 in
set_option maxRecDepth 100000 in
theorem impl_beside.calls (a0_0:Int) (a0_1:Int) (P0_2_:Nat → Prop) (A0_2:Option Addr) (c0_2:Nat) (l0_2:List (S29)) (a1_0:Int) (a1_1:Int) (P1_2_:Nat → Prop) (A1_2:Option Addr) (c1_2:Nat) (l1_2:List (S29)) (r1:Int) (r2:Int) (r3:List (S29)) (w:World) (hs0_2:Kd.V k29 29 w w.heap.size (fun k_=>P0_2_ k_) (.slice A0_2 l0_2.length c0_2) l0_2) (hs1_2:Kd.V k29 29 w w.heap.size (fun k_=>P1_2_ k_) (.slice A1_2 l1_2.length c1_2) l1_2) (h:impl_beside.f a0_0 a0_1 l0_2 a1_0 a1_1 l1_2 = some (r1,r2,r3)) :
  Calls Try.prog 62 #[.agg #[.int .i64 a0_0,.int .i64 a0_1,.slice A0_2 l0_2.length c0_2],.agg #[.int .i64 a1_0,.int .i64 a1_1,.slice A1_2 l1_2.length c1_2]] w fun e w'=>∃ v2_:Value,e = .returned (.agg #[.int .i64 r1,.int .i64 r2,v2_])∧Kd.N k29 29 w' w.heap.size (fun k_=>((P0_2_ k_ ∨ P1_2_ k_) ∨ w.heap.size ≤ k_)) v2_ r3∧Below w.heap.size w w':=by
 have hu29:=Try.underlying29
 have HO0_2:=aQ (show Kd.V k29 29 w w.heap.size (fun k_=>((P0_2_ k_ ∨ P1_2_ k_) ∨ w.heap.size ≤ k_)) (.slice A0_2 l0_2.length c0_2) l0_2 from Kd.V_mono hs0_2 (fun k_ hk=>.inl (.inl hk)))
 have HO1_2:=aQ (show Kd.V k29 29 w w.heap.size (fun k_=>((P0_2_ k_ ∨ P1_2_ k_) ∨ w.heap.size ≤ k_)) (.slice A1_2 l1_2.length c1_2) l1_2 from Kd.V_mono hs1_2 (fun k_ hk=>.inl (.inr hk)))
 have HB:=aQ (Below.refl w.heap.size w)
 have H:=h
 clear h
 obtain ⟨y314,hy314⟩:∃ y_:List (S29),y_ = (([(⟨a0_0,a0_1,l0_2⟩:S29),(⟨a1_0,a1_1,l1_2⟩:S29)]:List (S29))):=⟨_,rfl⟩
 replace H:(some (4,0,y314)) = some (r1,r2,r3):=by rw [hy314];exact H
 have Ny314:=aQ hy314
 clear hy314
 simp only [Option.some.injEq,Prod.mk.injEq] at H
 obtain ⟨rfl,rfl,rfl⟩:=H
 go_enter Try.func62,Try.ntmps62
 go_wp2_with (first | ((with_reducible refine gate_dst (N:=2) rfl ?_);refine box1 (N:=2) (cs:=#[.int .i64 a0_0,.int .i64 a0_1,.slice A0_2 l0_2.length c0_2]) (t:=29) ?_;intro gb311 hg w3 hbox hb;replace HO0_2:=aQ (Kd.V_below (Kd.V_elderB (nV HO0_2.out) gb311 (Nat.le_of_eq hg.symm)) hb);replace HO1_2:=aQ (Kd.V_below (Kd.V_elderB (nV HO1_2.out) gb311 (Nat.le_of_eq hg.symm)) hb);have BK311:=aQ (hbox);have GW311:=aQ (gB:w.heap.size ≤ gb311);have GE311:=GW311;replace HB:=aQ (below_step bB hb);clear hb hbox hg) | ((with_reducible refine gate_dst (N:=3) rfl ?_);refine box1 (N:=3) (cs:=#[.int .i64 a1_0,.int .i64 a1_1,.slice A1_2 l1_2.length c1_2]) (t:=29) ?_;intro gb312 hg w4 hbox hb;replace HO0_2:=aQ (Kd.V_below (Kd.V_elderB (nV HO0_2.out) gb312 (Nat.le_of_eq hg.symm)) hb);replace HO1_2:=aQ (Kd.V_below (Kd.V_elderB (nV HO1_2.out) gb312 (Nat.le_of_eq hg.symm)) hb);have BK312:=aQ (hbox);have GW312:=aQ (gB:w.heap.size ≤ gb312);have GE312:=GW312;replace HB:=aQ (below_step bB hb);have NB311_312:=aQ ((by rw [hg];exact Nat.ne_of_lt (blk_lt (nB BK311.out)):gb311 ≠ gb312));have NB312_311:=aQ NB311_312.out.symm;replace BK311:=aQ (blk_below (nB BK311.out) hb);clear hb hbox hg) | ((with_reducible refine gate_dst (N:=4) rfl ?_);refine box1 (N:=4) (cs:=#[.int .i64 0,.int .i64 0,.slice none 0 0]) (t:=29) ?_;intro gb313 hg w5 hbox hb;replace HO0_2:=aQ (Kd.V_below (Kd.V_elderB (nV HO0_2.out) gb313 (Nat.le_of_eq hg.symm)) hb);replace HO1_2:=aQ (Kd.V_below (Kd.V_elderB (nV HO1_2.out) gb313 (Nat.le_of_eq hg.symm)) hb);have BK313:=aQ (hbox);have GW313:=aQ (gB:w.heap.size ≤ gb313);have GE313:=GW313;replace HB:=aQ (below_step bB hb);have NB311_313:=aQ ((by rw [hg];exact Nat.ne_of_lt (blk_lt (nB BK311.out)):gb311 ≠ gb313));have NB313_311:=aQ NB311_313.out.symm;replace BK311:=aQ (blk_below (nB BK311.out) hb);have NB312_313:=aQ ((by rw [hg];exact Nat.ne_of_lt (blk_lt (nB BK312.out)):gb312 ≠ gb313));have NB313_312:=aQ NB312_313.out.symm;replace BK312:=aQ (blk_below (nB BK312.out) hb);clear hb hbox hg;have hnb6:=NB311_312.out;have hnc6:=NB312_311.out;have hnb7:=NB311_313.out;have hnc7:=NB313_311.out;obtain ⟨hcz8_0,hcz8_1,hcz8_2,hfz8_0,hfz8_1,hfz8_2⟩:=cz3 BK311.out;have hnb9:=NB312_313.out;have hnc9:=NB313_312.out;obtain ⟨hcz10_0,hcz10_1,hcz10_2,hfz10_0,hfz10_1,hfz10_2⟩:=cz3 BK312.out) | ((with_reducible refine gate_dst (N:=7) rfl ?_);refine Kd.N_lit k29 _ 29 ?hg (N':=7) ?hd (xs:=([(⟨a0_0,a0_1,l0_2⟩:S29),(⟨a1_0,a1_1,l1_2⟩:S29)]:List (S29))) (inner:=[.int .i64 a0_0,.int .i64 a0_1,.slice A0_2 l0_2.length c0_2,.int .i64 a1_0,.int .i64 a1_1,.slice A1_2 l1_2.length c1_2]) (ok:=(fun k_=>((P0_2_ k_ ∨ P1_2_ k_) ∨ w.heap.size ≤ k_)∧k_ ≠ gb311∧k_ ≠ gb312∧k_ ≠ gb313)) (okp:=(fun k_=>((P0_2_ k_ ∨ P1_2_ k_) ∨ w.heap.size ≤ k_)∧k_ ≠ gb311∧k_ ≠ gb312∧k_ ≠ gb313)) ?hr ?hp (fun _ hk=>hk) ((show ∀ k_,w5.heap.size ≤ k_ → (fun k_=>((P0_2_ k_ ∨ P1_2_ k_) ∨ w.heap.size ≤ k_)∧k_ ≠ gb311∧k_ ≠ gb312∧k_ ≠ gb313) k_ from fun k_ hk=>⟨(.inr (Nat.le_trans (below_size bB) hk)),Kd.freshB (nB BK311.out) k_ hk,Kd.freshB (nB BK312.out) k_ hk,Kd.freshB (nB BK313.out) k_ hk⟩) _ (Nat.le_refl _)) (Below.refl _ _) (Nat.le_refl _) (by simp) ?_;(case hd=>rfl);(case hg=>rfl);(case hr=>first | (go_simp;done) | (go_simp;rfl));(case hp=>exact (Reps.c3 (show Kd.FK k29 _ _ (⟨a0_0,a0_1,l0_2⟩:S29) [.int .i64 a0_0,.int .i64 a0_1,.slice A0_2 l0_2.length c0_2] from (k29_mkF _ _ (⟨a0_0,a0_1,l0_2⟩:S29) (Kd.V_reads' (Kd.V_mono (ok':=(fun k_=>((P0_2_ k_ ∨ P1_2_ k_) ∨ w.heap.size ≤ k_)∧k_ ≠ gb311∧k_ ≠ gb312∧k_ ≠ gb313)) (HO0_2.out) (fun k_ hk=>⟨hk.1.1.1,⟨hk.1.1.2,⟨hk.1.2,hk.2⟩⟩⟩))).2.1 (Kd.V_F (Kd.V_mono (ok':=(fun k_=>((P0_2_ k_ ∨ P1_2_ k_) ∨ w.heap.size ≤ k_)∧k_ ≠ gb311∧k_ ≠ gb312∧k_ ≠ gb313)) (HO0_2.out) (fun k_ hk=>⟨hk.1.1.1,⟨hk.1.1.2,⟨hk.1.2,hk.2⟩⟩⟩))))) (Reps.c3 (show Kd.FK k29 _ _ (⟨a1_0,a1_1,l1_2⟩:S29) [.int .i64 a1_0,.int .i64 a1_1,.slice A1_2 l1_2.length c1_2] from (k29_mkF _ _ (⟨a1_0,a1_1,l1_2⟩:S29) (Kd.V_reads' (Kd.V_mono (ok':=(fun k_=>((P0_2_ k_ ∨ P1_2_ k_) ∨ w.heap.size ≤ k_)∧k_ ≠ gb311∧k_ ≠ gb312∧k_ ≠ gb313)) (HO1_2.out) (fun k_ hk=>⟨hk.1.1.1,⟨hk.1.1.2,⟨hk.1.2,hk.2⟩⟩⟩))).2.1 (Kd.V_F (Kd.V_mono (ok':=(fun k_=>((P0_2_ k_ ∨ P1_2_ k_) ∨ w.heap.size ≤ k_)∧k_ ≠ gb311∧k_ ≠ gb312∧k_ ≠ gb313)) (HO1_2.out) (fun k_ hk=>⟨hk.1.1.1,⟨hk.1.1.2,⟨hk.1.2,hk.2⟩⟩⟩))))) (Reps.none _ _))));intro v315 w11 ho12 hb hg_ hnew_;clear hg_ hnew_;(first | rw [← Ny314.out] at ho12 | (simp only [Int.reduceToNat] at ho12;rw [← Ny314.out] at ho12));replace HO0_2:=aQ (Kd.V_elder' (nV HO0_2.out) (Kd.N_base ho12) hb);replace HO1_2:=aQ (Kd.V_elder' (nV HO1_2.out) (Kd.N_base ho12) hb);have HO316:=aQ (Kd.N_lower ho12 (below_size bB));replace BK311:=aQ (blk_below (nB BK311.out) hb);replace BK312:=aQ (blk_below (nB BK312.out) hb);replace BK313:=aQ (blk_below (nB BK313.out) hb);replace HB:=aQ (below_step bB hb);clear hb ho12;obtain ⟨Ao13,co13,eo13⟩:=Kd.N_slice HO316.out;subst eo13;obtain ⟨hcz14_0,hcz14_1,hcz14_2,hfz14_0,hfz14_1,hfz14_2⟩:=cz3 BK313.out))
 refine bodyPost_ret (results_cell_row rfl _ _ gb313 29 #[.int .i64 4,.int .i64 0,.slice Ao13 y314.length co13] (0,0) _ rfl bP Try.underlying29 rfl (by kernel_rfl)) rfl ?_
 exact ⟨_,rfl,by (with_reducible repeat (first | apply Kd.N_alloc | apply Kd.N_drewN | apply Kd.N_drew));exact Kd.N_mono (nFN (g:=gb313) HO316.out (fun k_ hk=>hk.2.2.2)) (fun _ hk=>hk.1),bB⟩
mutual
def impl_ticksOf.l0:Nat → List (S44) → List (S44) → List (S44) → List (S44) → Int → Int → Int → Int → List (S29) → Option ((List (S44)))
 | 0,_,_,_,_,_,_,_,_,_=>none
 | k + 1,x3,x4,x5,x52,x53,x54,x318000,x318001,x318002=>if x54 < x53 then (if 0 ≤ x54 then (if x54 < (x52.length:Int) then (if 1 < (x318002.length:Int) then ((impl_beside.f ((rd_T44 x52 x54).f1.f0) ((rd_T44 x52 x54).f1.f1) ((rd_T44 x52 x54).f1.f2) ((rd_T29 x318002 1).f0) ((rd_T29 x318002 1).f1) ((rd_T29 x318002 1).f2)).bind fun bt347=>(if x5.length < 2932031007402 then (impl_ticksOf.l0 k x3 x4 (x5 ++ [(⟨(rd_T44 x52 x54).f0,(⟨bt347.1,bt347.2.1,bt347.2.2⟩:S29)⟩:S44)]) x52 x53 (wrap64 (x54 + 1)) x318000 x318001 x318002) else (none))) else (none)) else (none)) else (none)) else (impl_ticksOf.l1 k x3 x4 x5 x4 (x4.length:Int) 0 x318000 x318001 x318002)
def impl_ticksOf.l1:Nat → List (S44) → List (S44) → List (S44) → List (S44) → Int → Int → Int → Int → List (S29) → Option ((List (S44)))
 | 0,_,_,_,_,_,_,_,_,_=>none
 | k + 1,x3,x4,x5,x72,x73,x74,x318000,x318001,x318002=>if x74 < x73 then (if 0 ≤ x74 then (if x74 < (x72.length:Int) then (if 0 < (x318002.length:Int) then ((impl_beside.f ((rd_T29 x318002 0).f0) ((rd_T29 x318002 0).f1) ((rd_T29 x318002 0).f2) ((rd_T44 x72 x74).f1.f0) ((rd_T44 x72 x74).f1.f1) ((rd_T44 x72 x74).f1.f2)).bind fun bt358=>(if x5.length < 2932031007402 then (impl_ticksOf.l1 k x3 x4 (x5 ++ [(⟨(rd_T44 x72 x74).f0,(⟨bt358.1,bt358.2.1,bt358.2.2⟩:S29)⟩:S44)]) x72 x73 (wrap64 (x74 + 1)) x318000 x318001 x318002) else (none))) else (none)) else (none)) else (none)) else (impl_ticksOf.l2 k x4 x5 x3 (x3.length:Int) 0)
def impl_ticksOf.l2:Nat → List (S44) → List (S44) → List (S44) → Int → Int → Option ((List (S44)))
 | 0,_,_,_,_,_=>none
 | k + 1,x4,x5,x92,x93,x94=>if x94 < x93 then (if 0 ≤ x94 then (if x94 < (x92.length:Int) then (impl_ticksOf.l3 k x4 x5 x92 x93 x94 x4 (x4.length:Int) 0 ((rd_T44 x92 x94).f0) ((rd_T44 x92 x94).f1.f0) ((rd_T44 x92 x94).f1.f1) ((rd_T44 x92 x94).f1.f2)) else (none)) else (none)) else (some x5)
def impl_ticksOf.l3:Nat → List (S44) → List (S44) → List (S44) → Int → Int → List (S44) → Int → Int → Int → Int → Int → List (S29) → Option ((List (S44)))
 | 0,_,_,_,_,_,_,_,_,_,_,_,_=>none
 | k + 1,x4,x5,x92,x93,x94,x98,x99,x100,x368000,x368001,x368002,x368003=>if x100 < x99 then (if 0 ≤ x100 then (if x100 < (x98.length:Int) then (if x368000 = 0 then (impl_ticksOf.l3 k x4 x5 x92 x93 x94 x98 x99 (wrap64 (x100 + 1)) x368000 x368001 x368002 x368003) else (if x368000 = (wrap64 (-((rd_T44 x98 x100).f0))) then ((impl_beside.f x368001 x368002 x368003 ((rd_T44 x98 x100).f1.f0) ((rd_T44 x98 x100).f1.f1) ((rd_T44 x98 x100).f1.f2)).bind fun bt370=>(if x5.length < 2932031007402 then (impl_ticksOf.l3 k x4 (x5 ++ [(⟨0,(⟨bt370.1,bt370.2.1,bt370.2.2⟩:S29)⟩:S44)]) x92 x93 x94 x98 x99 (wrap64 (x100 + 1)) x368000 x368001 x368002 x368003) else (none))) else (impl_ticksOf.l3 k x4 x5 x92 x93 x94 x98 x99 (wrap64 (x100 + 1)) x368000 x368001 x368002 x368003))) else (none)) else (none)) else (impl_ticksOf.l2 k x4 x5 x92 x93 (wrap64 (x94 + 1)))
def impl_ticksOf.f:Nat → Int → Int → List (S29) → Option ((List (S44)))
 | 0,_,_,_=>none
 | k + 1,a0_0,a0_1,l0_2=>if a0_0 = 1 then (if 0 < (l0_2.length:Int) then (some (([(⟨a0_1,(⟨(rd_T29 l0_2 0).f0,(rd_T29 l0_2 0).f1,(rd_T29 l0_2 0).f2⟩:S29)⟩:S44)]:List (S44)))) else (none)) else (if a0_0 = 3 then (if 0 < (l0_2.length:Int) then ((impl_ticksOf.f k ((rd_T29 l0_2 0).f0) ((rd_T29 l0_2 0).f1) ((rd_T29 l0_2 0).f2)).bind fun t323=>(if 1 < (l0_2.length:Int) then ((impl_ticksOf.f k ((rd_T29 l0_2 1).f0) ((rd_T29 l0_2 1).f1) ((rd_T29 l0_2 1).f2)).bind fun t327=>(if t323.length + t327.length < 2932031007402 then (some (t323 ++ t327)) else (none))) else (none))) else (none)) else (if a0_0 = 4 then (if 0 < (l0_2.length:Int) then ((impl_ticksOf.f k ((rd_T29 l0_2 0).f0) ((rd_T29 l0_2 0).f1) ((rd_T29 l0_2 0).f2)).bind fun t334=>(if 1 < (l0_2.length:Int) then ((impl_ticksOf.f k ((rd_T29 l0_2 1).f0) ((rd_T29 l0_2 1).f1) ((rd_T29 l0_2 1).f2)).bind fun t338=>(impl_ticksOf.l0 k t334 t338 (([]:List (S44))) t334 (t334.length:Int) 0 a0_0 a0_1 l0_2)) else (none))) else (none)) else (some ([]:List (S44)))))
end
theorem impl_ticksOf.mono_l:∀ k,(∀ y0 y1 y2,LeO (impl_ticksOf.f k y0 y1 y2) (impl_ticksOf.f (k + 1) y0 y1 y2))∧(∀ y0 y1 y2 y3 y4 y5 y6 y7 y8,LeO (impl_ticksOf.l0 k y0 y1 y2 y3 y4 y5 y6 y7 y8) (impl_ticksOf.l0 (k + 1) y0 y1 y2 y3 y4 y5 y6 y7 y8))∧(∀ y0 y1 y2 y3 y4 y5 y6 y7 y8,LeO (impl_ticksOf.l1 k y0 y1 y2 y3 y4 y5 y6 y7 y8) (impl_ticksOf.l1 (k + 1) y0 y1 y2 y3 y4 y5 y6 y7 y8))∧(∀ y0 y1 y2 y3 y4,LeO (impl_ticksOf.l2 k y0 y1 y2 y3 y4) (impl_ticksOf.l2 (k + 1) y0 y1 y2 y3 y4))∧(∀ y0 y1 y2 y3 y4 y5 y6 y7 y8 y9 y10 y11,LeO (impl_ticksOf.l3 k y0 y1 y2 y3 y4 y5 y6 y7 y8 y9 y10 y11) (impl_ticksOf.l3 (k + 1) y0 y1 y2 y3 y4 y5 y6 y7 y8 y9 y10 y11))
 | 0=>⟨fun _ _ _ r h=>by simp [impl_ticksOf.f] at h,fun _ _ _ _ _ _ _ _ _ r h=>by simp [impl_ticksOf.l0] at h,fun _ _ _ _ _ _ _ _ _ r h=>by simp [impl_ticksOf.l1] at h,fun _ _ _ _ _ r h=>by simp [impl_ticksOf.l2] at h,fun _ _ _ _ _ _ _ _ _ _ _ _ r h=>by simp [impl_ticksOf.l3] at h⟩
 | k + 1=>by
  obtain ⟨ih0,ih1,ih2,ih3,ih4⟩:=impl_ticksOf.mono_l k
  refine ⟨?_,?_,?_,?_,?_⟩
  ·intro y0 y1 y2
   unfold impl_ticksOf.f
   repeat' first
   | (with_reducible exact ih0 _ _ _)
   | (with_reducible exact ih1 _ _ _ _ _ _ _ _ _)
   | (with_reducible exact ih2 _ _ _ _ _ _ _ _ _)
   | (with_reducible exact ih3 _ _ _ _ _)
   | (with_reducible exact ih4 _ _ _ _ _ _ _ _ _ _ _ _)
   | (with_reducible exact LeO.refl _)
   | (with_reducible exact LeO.none _)
   | (with_reducible refine LeO.ite ?_ ?_)
   | (with_reducible refine LeO.bind ?_ (fun _=>?_))
   | exact ih0 _ _ _
   | exact ih1 _ _ _ _ _ _ _ _ _
   | exact ih2 _ _ _ _ _ _ _ _ _
   | exact ih3 _ _ _ _ _
   | exact ih4 _ _ _ _ _ _ _ _ _ _ _ _
   | exact LeO.none _
   | refine LeO.ite ?_ ?_
   | refine LeO.bind ?_ (fun _=>?_)
  ·intro y0 y1 y2 y3 y4 y5 y6 y7 y8
   unfold impl_ticksOf.l0
   repeat' first
   | (with_reducible exact ih0 _ _ _)
   | (with_reducible exact ih1 _ _ _ _ _ _ _ _ _)
   | (with_reducible exact ih2 _ _ _ _ _ _ _ _ _)
   | (with_reducible exact ih3 _ _ _ _ _)
   | (with_reducible exact ih4 _ _ _ _ _ _ _ _ _ _ _ _)
   | (with_reducible exact LeO.refl _)
   | (with_reducible exact LeO.none _)
   | (with_reducible refine LeO.ite ?_ ?_)
   | (with_reducible refine LeO.bind ?_ (fun _=>?_))
   | exact ih0 _ _ _
   | exact ih1 _ _ _ _ _ _ _ _ _
   | exact ih2 _ _ _ _ _ _ _ _ _
   | exact ih3 _ _ _ _ _
   | exact ih4 _ _ _ _ _ _ _ _ _ _ _ _
   | exact LeO.none _
   | refine LeO.ite ?_ ?_
   | refine LeO.bind ?_ (fun _=>?_)
  ·intro y0 y1 y2 y3 y4 y5 y6 y7 y8
   unfold impl_ticksOf.l1
   repeat' first
   | (with_reducible exact ih0 _ _ _)
   | (with_reducible exact ih1 _ _ _ _ _ _ _ _ _)
   | (with_reducible exact ih2 _ _ _ _ _ _ _ _ _)
   | (with_reducible exact ih3 _ _ _ _ _)
   | (with_reducible exact ih4 _ _ _ _ _ _ _ _ _ _ _ _)
   | (with_reducible exact LeO.refl _)
   | (with_reducible exact LeO.none _)
   | (with_reducible refine LeO.ite ?_ ?_)
   | (with_reducible refine LeO.bind ?_ (fun _=>?_))
   | exact ih0 _ _ _
   | exact ih1 _ _ _ _ _ _ _ _ _
   | exact ih2 _ _ _ _ _ _ _ _ _
   | exact ih3 _ _ _ _ _
   | exact ih4 _ _ _ _ _ _ _ _ _ _ _ _
   | exact LeO.none _
   | refine LeO.ite ?_ ?_
   | refine LeO.bind ?_ (fun _=>?_)
  ·intro y0 y1 y2 y3 y4
   unfold impl_ticksOf.l2
   repeat' first
   | (with_reducible exact ih0 _ _ _)
   | (with_reducible exact ih1 _ _ _ _ _ _ _ _ _)
   | (with_reducible exact ih2 _ _ _ _ _ _ _ _ _)
   | (with_reducible exact ih3 _ _ _ _ _)
   | (with_reducible exact ih4 _ _ _ _ _ _ _ _ _ _ _ _)
   | (with_reducible exact LeO.refl _)
   | (with_reducible exact LeO.none _)
   | (with_reducible refine LeO.ite ?_ ?_)
   | (with_reducible refine LeO.bind ?_ (fun _=>?_))
   | exact ih0 _ _ _
   | exact ih1 _ _ _ _ _ _ _ _ _
   | exact ih2 _ _ _ _ _ _ _ _ _
   | exact ih3 _ _ _ _ _
   | exact ih4 _ _ _ _ _ _ _ _ _ _ _ _
   | exact LeO.none _
   | refine LeO.ite ?_ ?_
   | refine LeO.bind ?_ (fun _=>?_)
  ·intro y0 y1 y2 y3 y4 y5 y6 y7 y8 y9 y10 y11
   unfold impl_ticksOf.l3
   repeat' first
   | (with_reducible exact ih0 _ _ _)
   | (with_reducible exact ih1 _ _ _ _ _ _ _ _ _)
   | (with_reducible exact ih2 _ _ _ _ _ _ _ _ _)
   | (with_reducible exact ih3 _ _ _ _ _)
   | (with_reducible exact ih4 _ _ _ _ _ _ _ _ _ _ _ _)
   | (with_reducible exact LeO.refl _)
   | (with_reducible exact LeO.none _)
   | (with_reducible refine LeO.ite ?_ ?_)
   | (with_reducible refine LeO.bind ?_ (fun _=>?_))
   | exact ih0 _ _ _
   | exact ih1 _ _ _ _ _ _ _ _ _
   | exact ih2 _ _ _ _ _ _ _ _ _
   | exact ih3 _ _ _ _ _
   | exact ih4 _ _ _ _ _ _ _ _ _ _ _ _
   | exact LeO.none _
   | refine LeO.ite ?_ ?_
   | refine LeO.bind ?_ (fun _=>?_)
theorem impl_ticksOf.mono:∀ a0 a1 a2 k,LeO (impl_ticksOf.f k a0 a1 a2) (impl_ticksOf.f (k + 1) a0 a1 a2):=by
 intro a0 a1 a2 k
 obtain ⟨ih0,ih1,ih2,ih3,ih4⟩:=impl_ticksOf.mono_l k
 exact ih0 a0 a1 a2
def impl_ticksOf.T3:Bool × List (List Nat × List Nat):=(true,[([],[]),([0],[0]),([],[]),([2],[2]),([3],[3]),([4],[4]),([1,5],[1,5]),([6],[6]),([7,0,1,2,3,4,5,6,7],[7])])
def impl_ticksOf.B3:List Nat:=[0,1,0,4,12,28,63,127,255]
theorem impl_ticksOf.tab3:rtab .any (opsOf Try.f47 3) = impl_ticksOf.T3:=by kernel_rfl
theorem impl_ticksOf.bits3:waitsOk impl_ticksOf.T3.2 impl_ticksOf.B3 = true:=by kernel_rfl
def impl_ticksOf.T5:Bool × List (List Nat × List Nat):=(true,[([],[]),([0],[0]),([1],[1]),([2],[2]),([3],[3]),([],[]),([5],[5]),([6],[6]),([7],[7]),([8,4],[8]),([4,9,9],[4,9]),([10,10,0,1,2,3,4,5,6,7,8,9,10],[10])])
def impl_ticksOf.B5:List Nat:=[0,1,3,7,15,0,32,96,224,511,1023,2047]
theorem impl_ticksOf.tab5:rtab .any (opsOf Try.f47 5) = impl_ticksOf.T5:=by kernel_rfl
theorem impl_ticksOf.bits5:waitsOk impl_ticksOf.T5.2 impl_ticksOf.B5 = true:=by kernel_rfl
def impl_ticksOf.T7:Bool × List (List Nat × List Nat):=(true,[([],[]),([0],[0]),([1],[1]),([2],[2]),([3],[3]),([],[]),([5],[5]),([6],[6]),([7],[7]),([8,4],[8]),([4,9,0,1,2,3,4],[4]),([9,10,0,1,2,3,4,5,6,7,8,9,10],[9])])
def impl_ticksOf.B7:List Nat:=[0,1,3,7,15,0,32,96,224,511,1023,2047]
theorem impl_ticksOf.tab7:rtab .any (opsOf Try.f47 7) = impl_ticksOf.T7:=by kernel_rfl
theorem impl_ticksOf.bits7:waitsOk impl_ticksOf.T7.2 impl_ticksOf.B7 = true:=by kernel_rfl
def impl_ticksOf.T12:Bool × List (List Nat × List Nat):=(true,[([],[]),([],[]),([1],[1]),([],[]),([3],[3]),([],[]),([5],[5]),([6],[6]),([7],[7]),([4,8],[4,8]),([2,9],[2,9]),([10],[10]),([0,11,9],[0,11]),([12,12,0,1,2,3,4,5,6,7,8,9,10,11,12],[0,12])])
def impl_ticksOf.B12:List Nat:=[0,0,2,0,8,0,32,96,224,504,1022,2046,4095,8191]
theorem impl_ticksOf.tab12:rtab .any (opsOf Try.f47 12) = impl_ticksOf.T12:=by kernel_rfl
theorem impl_ticksOf.bits12:waitsOk impl_ticksOf.T12.2 impl_ticksOf.B12 = true:=by kernel_rfl
def impl_ticksOf.T17:Bool × List (List Nat × List Nat):=(true,[([],[]),([],[]),([1],[1]),([],[]),([3],[3]),([4],[4]),([5],[5]),([],[]),([7],[7]),([6,8],[6,8]),([2,9],[2,9]),([10],[10]),([0,11,9],[0,11]),([12,12,0,1,2,3,4,5,6,7,8,9,10,11,12],[0,12])])
def impl_ticksOf.B17:List Nat:=[0,0,2,0,8,24,56,0,128,504,1022,2046,4095,8191]
theorem impl_ticksOf.tab17:rtab .any (opsOf Try.f47 17) = impl_ticksOf.T17:=by kernel_rfl
theorem impl_ticksOf.bits17:waitsOk impl_ticksOf.T17.2 impl_ticksOf.B17 = true:=by kernel_rfl
set_option maxHeartbeats 8000000 in
set_option maxRecDepth 100000 in
theorem impl_ticksOf.calls (k:Nat):∀ (a0_0:Int) (a0_1:Int) (P0_2_:Nat → Prop) (A0_2:Option Addr) (c0_2:Nat) (l0_2:List (S29)) (r:List (S44)) (w:World) (hs0_2:Kd.V k29 29 w w.heap.size (fun k_=>P0_2_ k_) (.slice A0_2 l0_2.length c0_2) l0_2) (h:impl_ticksOf.f k a0_0 a0_1 l0_2 = some r),
  Calls Try.prog 47 #[.agg #[.int .i64 a0_0,.int .i64 a0_1,.slice A0_2 l0_2.length c0_2]] w fun e w'=>∃ v0_:Value,e = .returned (v0_)∧Kd.N k44 44 w' w.heap.size (fun k_=>(P0_2_ k_ ∨ w.heap.size ≤ k_)) v0_ r∧Below w.heap.size w w':=by
 induction k using Nat.strongRecOn with
 | _ k ih =>
 intro a0_0 a0_1 P0_2_ A0_2 c0_2 l0_2 r w hs0_2 h
 cases k with
 | zero=>exact absurd h (by simp [impl_ticksOf.f])
 | succ k =>
 simp only [impl_ticksOf.f] at h
 have hu29:=Try.underlying29
 have hu44:=Try.underlying44
 have HO0_2:=aQ (show Kd.V k29 29 w w.heap.size (fun k_=>(P0_2_ k_ ∨ w.heap.size ≤ k_)) (.slice A0_2 l0_2.length c0_2) l0_2 from Kd.V_mono hs0_2 (fun k_ hk=>.inl hk))
 have HB:=aQ (Below.refl w.heap.size w)
 have H:=h
 clear h
 by_cases c2:a0_0 = 1
 ·rw [if_pos c2] at H
  have c2b0:(a0_0 == 1) = true:=beq_iff_eq.mpr c2
  have c2b1:(a0_0 != 1) = false:=bne_eq_false_iff_eq.mpr c2
  clear c2
  by_cases c3:0 < (l0_2.length:Int);rotate_left
  ·rw [if_neg c3] at H
   exact absurd H (by simp)
  rw [if_pos c3] at H
  have c3b0:decide (0 < (l0_2.length:Int)) = true:=decide_eq_true c3
  have c3b1:decide (0 < l0_2.length) = true:=decide_eq_true (by omega)
  clear c3
  obtain ⟨y319,hy319⟩:∃ y_:List (S44),y_ = (([(⟨a0_1,(⟨(rd_T29 l0_2 0).f0,(rd_T29 l0_2 0).f1,(rd_T29 l0_2 0).f2⟩:S29)⟩:S44)]:List (S44))):=⟨_,rfl⟩
  replace H:(some y319) = some r:=by rw [hy319];exact H
  have Ny319:=aQ hy319
  clear hy319
  obtain rfl:=Option.some.inj H
  go_enter Try.func47,Try.ntmps47
  try go_wp2_with (first | ((with_reducible refine gate_dst (N:=1) rfl ?_);refine box1 (N:=1) (cs:=#[.int .i64 a0_0,.int .i64 a0_1,.slice A0_2 l0_2.length c0_2]) (t:=29) ?_;intro gb317 hg w4 hbox hb;replace HO0_2:=aQ (Kd.V_below (Kd.V_elderB (nV HO0_2.out) gb317 (Nat.le_of_eq hg.symm)) hb);have BK317:=aQ (hbox);have GW317:=aQ (gB:w.heap.size ≤ gb317);have GE317:=GW317;replace HB:=aQ (below_step bB hb);clear hb hbox hg;obtain ⟨hcz5_0,hcz5_1,hcz5_2,hfz5_0,hfz5_1,hfz5_2⟩:=cz3 BK317.out))
  replace HO0_2:=aQ (Kd.V_drew HO0_2.out)
  replace BK317:=aQ (blk_drew BK317.out)
  replace HB:=aQ (below_drew1 HB.out)
  have p318:0 ≤ (0:Int):=(by omega)
  have q318:0 < (l0_2.length:Int):=of_decide_eq_true (by first | (with_reducible assumption) | assumption)
  obtain ⟨ad318,A318_2,c318_2,e318,hx318_0,hx318_1,hx318_2,hl318_2,hi318_2⟩:=at_T29 (Kd.V_reads' HO0_2.out).2.2 0 p318 q318
  cases e318
  obtain ⟨ce318,hce318,hMe318,hcc318⟩:=Kd.V_get HO0_2.out z29 0 p318 (by first | exact q318 | exact of_decide_eq_true (by first | (with_reducible assumption) | assumption) | (have e_:=(Kd.V_reads' HO0_2.out).1;omega))
  obtain ⟨ua318_2,uc318_2,rfl,ul318_2,ge318_2⟩:=k29_openF hMe318
  have hv318_2:=hcc318 2 _ rfl
  rw [add_field _ _ 2 (by omega)] at hv318_2
  replace hv318_2:=Option.some.inj (hv318_2.symm.trans hx318_2)
  injection hv318_2 with hva_ hvn_ hvc_
  rw [hva_] at ge318_2
  rw [hvc_] at ul318_2
  have HL318_2:=aQ (show Kd.V k29 29 _ w.heap.size _ _ ((rd_T29 l0_2 0).f2) from Kd.V_mk ul318_2 ge318_2)
  clear hva_ hvn_ hvc_ ge318_2 ul318_2
  clear hcc318 hce318
  have qi318:(0 < l0_2.length) = True:=eq_true (by omega)
  (try rw [show ((0:Int)).toNat = 0 from rfl,show 0 * 3 = 0 from rfl] at hx318_0 hx318_1 hx318_2)
  (try rw [Addr.add_zero'] at hx318_0)
  (try rw [Addr.add_zero'] at hx318_1)
  (try rw [Addr.add_zero'] at hx318_2)
  have HR318_2:=aQ hi318_2
  have HC318_2:=aQ hl318_2
  clear hi318_2 hl318_2
  replace p318:=eq_true p318
  replace q318:=eq_true q318
  refine start_ (n:=9) (S:=fun w'=>w'.cell? ⟨gb317,0,none⟩ = some (.int .i64 a0_0)∧w'.cell? ⟨gb317,1,none⟩ = some (.int .i64 a0_1)∧w'.cell? ⟨gb317,2,none⟩ = some (.slice (some ad318) l0_2.length c0_2)∧w'.cell? ad318 = some (.int .i64 ((rd_T29 l0_2 0).f0))∧w'.cell? ⟨ad318.block,ad318.off + 1,none⟩ = some (.int .i64 ((rd_T29 l0_2 0).f1))∧w'.cell? ⟨ad318.block,ad318.off + 2,none⟩ = some (.slice A318_2 ((rd_T29 l0_2 0).f2).length c318_2)) (ds:=[]) (bn 9 0) (by kernel_rfl) rfl rfl ⟨(blk_cell BK317.out 0).trans rfl,(blk_cell BK317.out 1).trans rfl,(blk_cell BK317.out 2).trans rfl,hx318_0,hx318_1,hx318_2⟩ (fun hHeld=>?_);refine with_tabW impl_ticksOf.tab3 impl_ticksOf.bits3 (fun HT_ HW_=>?_)
  generalize w4.drew = w6 at HO0_2 BK317 HB HL318_2 HR318_2 hx318_0 hx318_1 hx318_2 hHeld ⊢
  refine pur (i:=0) (N:=some 18) (bn 9 1) ?_
  refine pur (i:=2) (N:=some 20) (bn 9 5) ?_
  refine tak (i:=1) (N:=some 19) (bn 9 7) ?_
  refine tak (i:=3) (N:=some 21) (bn 9 15) ?_
  refine pur (i:=4) (N:=some 22) (bn 9 31) ?_
  refine tak (i:=5) (N:=some 23) (bn 9 63) ?_
  refine pur (i:=6) (N:=some 24) (bn 9 127) ?_
  refine one_ (i:=7) (N:=some 25) (bn 9 255) rfl rfl (one_of HT_.out (by kernel_rfl)) (by decide) (fun K hK=>?_)
  refine Kd.N_lit_step k44 _ 44 ?hg (N':=25) ?hd (xs:=([(⟨a0_1,(⟨(rd_T29 l0_2 0).f0,(rd_T29 l0_2 0).f1,(rd_T29 l0_2 0).f2⟩:S29)⟩:S44)]:List (S44))) (inner:=[.int .i64 a0_1,.int .i64 ((rd_T29 l0_2 0).f0),.int .i64 ((rd_T29 l0_2 0).f1),.slice A318_2 ((rd_T29 l0_2 0).f2).length c318_2]) (ok:=(fun k_=>(P0_2_ k_ ∨ w.heap.size ≤ k_)∧k_ ≠ gb317)) (okp:=(fun k_=>(P0_2_ k_ ∨ w.heap.size ≤ k_)∧k_ ≠ gb317)) ?hr ?hp (fun _ hk=>hk) ((show ∀ k_,w6.heap.size ≤ k_ → (fun k_=>(P0_2_ k_ ∨ w.heap.size ≤ k_)∧k_ ≠ gb317) k_ from fun k_ hk=>⟨(.inr (Nat.le_trans (below_size bB) hk)),Kd.freshB (nB BK317.out) k_ hk⟩) _ (Nat.le_refl _)) (Below.refl _ _) (Nat.le_refl _) (by simp) ?_;(case hd=>rfl);(case hg=>rfl);(case hr=>first | (go_simp;done) | (go_simp;rfl));(case hp=>exact (Reps.c4 (show Kd.FK k44 _ _ (⟨a0_1,(⟨(rd_T29 l0_2 0).f0,(rd_T29 l0_2 0).f1,(rd_T29 l0_2 0).f2⟩:S29)⟩:S44) [.int .i64 a0_1,.int .i64 ((rd_T29 l0_2 0).f0),.int .i64 ((rd_T29 l0_2 0).f1),.slice A318_2 ((rd_T29 l0_2 0).f2).length c318_2] from (k44_mkF _ _ (⟨a0_1,(⟨(rd_T29 l0_2 0).f0,(rd_T29 l0_2 0).f1,(rd_T29 l0_2 0).f2⟩:S29)⟩:S44) (Kd.V_reads' (Kd.V_mono (ok':=(fun k_=>(P0_2_ k_ ∨ w.heap.size ≤ k_)∧k_ ≠ gb317)) (HL318_2.out) (fun k_ hk=>⟨hk.1,hk.2⟩))).2.1 (Kd.V_F (Kd.V_mono (ok':=(fun k_=>(P0_2_ k_ ∨ w.heap.size ≤ k_)∧k_ ≠ gb317)) (HL318_2.out) (fun k_ hk=>⟨hk.1,hk.2⟩))))) (Reps.none _ _)))
  intro v320 w7 ho8 hb hg_ hnew_
  have HS3_:=(hb.cell (World.block_lt_of_cell? _ _ (hHeld.2.2.2.1))).trans (hHeld.2.2.2.1)
  have HS4_:=(hb.cell (World.block_lt_of_cell? _ _ (hHeld.2.2.2.2.1))).trans (hHeld.2.2.2.2.1)
  have HS5_:=(hb.cell (World.block_lt_of_cell? _ _ (hHeld.2.2.2.2.2))).trans (hHeld.2.2.2.2.2)
  clear hg_ hnew_
  (first | rw [← Ny319.out] at ho8 | (simp only [Int.reduceToNat] at ho8;rw [← Ny319.out] at ho8))
  replace HO0_2:=aQ (Kd.V_elder' (nV HO0_2.out) (Kd.N_base ho8) hb)
  replace HL318_2:=aQ (Kd.V_elder' (nV HL318_2.out) (Kd.N_base ho8) hb)
  have HO321:=aQ (Kd.N_lower ho8 (below_size bB))
  replace BK317:=aQ (blk_below (nB BK317.out) hb)
  replace HR318_2:=aQ (Kd.C_below (nC HR318_2.out) hb)
  replace HB:=aQ (below_step bB hb)
  clear hb ho8
  refine hK.out _ _ ⟨(blk_cell BK317.out 0).trans rfl,(blk_cell BK317.out 1).trans rfl,(blk_cell BK317.out 2).trans rfl,HS3_,HS4_,HS5_⟩ (fun hHeld=>?_)
  clear hK K
  refine nrm (N:=some 25) ?_
  refine pur (i:=8) (N:=some 2) (bn 9 511) ?_
  refine done_ (done_of HT_.out (by kernel_rfl)) ?_
  try go_wp2
  go_ret
  exact ⟨_,rfl,by (with_reducible repeat (first | apply Kd.N_alloc | apply Kd.N_drewN | apply Kd.N_drew));exact Kd.N_mono HO321.out (fun _ hk=>hk.1),bB⟩
 rw [if_neg c2] at H
 have c2b0:(a0_0 == 1) = false:=beq_eq_false_iff_ne.mpr c2
 have c2b1:(a0_0 != 1) = true:=bne_iff_ne.mpr c2
 by_cases c9:a0_0 = 3
 ·rw [if_pos c9] at H
  have c9b0:(a0_0 == 3) = true:=beq_iff_eq.mpr c9
  have c9b1:(a0_0 != 3) = false:=bne_eq_false_iff_eq.mpr c9
  clear c9
  by_cases c10:0 < (l0_2.length:Int);rotate_left
  ·rw [if_neg c10] at H
   exact absurd H (by simp)
  rw [if_pos c10] at H
  have c10b0:decide (0 < (l0_2.length:Int)) = true:=decide_eq_true c10
  have c10b1:decide (0 < l0_2.length) = true:=decide_eq_true (by omega)
  clear c10
  obtain ⟨t323,A11,H⟩:=bQ H
  (try dsimp only at H)
  by_cases c12:1 < (l0_2.length:Int);rotate_left
  ·rw [if_neg c12] at H
   exact absurd H (by simp)
  rw [if_pos c12] at H
  have c12b0:decide (1 < (l0_2.length:Int)) = true:=decide_eq_true c12
  have c12b1:decide (1 < l0_2.length) = true:=decide_eq_true (by omega)
  clear c12
  obtain ⟨t327,A13,H⟩:=bQ H
  (try dsimp only at H)
  by_cases c14:t323.length + t327.length < 2932031007402;rotate_left
  ·rw [if_neg c14] at H
   exact absurd H (by simp)
  rw [if_pos c14] at H
  have LMc14:=aQ c14
  clear c14
  obtain ⟨y330,hy330⟩:∃ y_:List (S44),y_ = (t323 ++ t327):=⟨_,rfl⟩
  replace H:(some y330) = some r:=by rw [hy330];exact H
  have Ny330:=aQ hy330
  clear hy330
  obtain rfl:=Option.some.inj H
  go_enter Try.func47,Try.ntmps47
  try go_wp2_with (first | ((with_reducible refine gate_dst (N:=1) rfl ?_);refine box1 (N:=1) (cs:=#[.int .i64 a0_0,.int .i64 a0_1,.slice A0_2 l0_2.length c0_2]) (t:=29) ?_;intro gb317 hg w15 hbox hb;replace HO0_2:=aQ (Kd.V_below (Kd.V_elderB (nV HO0_2.out) gb317 (Nat.le_of_eq hg.symm)) hb);have BK317:=aQ (hbox);have GW317:=aQ (gB:w.heap.size ≤ gb317);have GE317:=GW317;replace HB:=aQ (below_step bB hb);clear hb hbox hg;obtain ⟨hcz16_0,hcz16_1,hcz16_2,hfz16_0,hfz16_1,hfz16_2⟩:=cz3 BK317.out))
  replace HO0_2:=aQ (Kd.V_drew HO0_2.out)
  replace BK317:=aQ (blk_drew BK317.out)
  replace HB:=aQ (below_drew1 HB.out)
  have p322:0 ≤ (0:Int):=(by omega)
  have q322:0 < (l0_2.length:Int):=of_decide_eq_true (by first | (with_reducible assumption) | assumption)
  obtain ⟨ad322,A322_2,c322_2,e322,hx322_0,hx322_1,hx322_2,hl322_2,hi322_2⟩:=at_T29 (Kd.V_reads' HO0_2.out).2.2 0 p322 q322
  cases e322
  obtain ⟨ce322,hce322,hMe322,hcc322⟩:=Kd.V_get HO0_2.out z29 0 p322 (by first | exact q322 | exact of_decide_eq_true (by first | (with_reducible assumption) | assumption) | (have e_:=(Kd.V_reads' HO0_2.out).1;omega))
  obtain ⟨ua322_2,uc322_2,rfl,ul322_2,ge322_2⟩:=k29_openF hMe322
  have hv322_2:=hcc322 2 _ rfl
  rw [add_field _ _ 2 (by omega)] at hv322_2
  replace hv322_2:=Option.some.inj (hv322_2.symm.trans hx322_2)
  injection hv322_2 with hva_ hvn_ hvc_
  rw [hva_] at ge322_2
  rw [hvc_] at ul322_2
  have HL322_2:=aQ (show Kd.V k29 29 _ w.heap.size _ _ ((rd_T29 l0_2 0).f2) from Kd.V_mk ul322_2 ge322_2)
  clear hva_ hvn_ hvc_ ge322_2 ul322_2
  clear hcc322 hce322
  have qi322:(0 < l0_2.length) = True:=eq_true (by omega)
  (try rw [show ((0:Int)).toNat = 0 from rfl,show 0 * 3 = 0 from rfl] at hx322_0 hx322_1 hx322_2)
  (try rw [Addr.add_zero'] at hx322_0)
  (try rw [Addr.add_zero'] at hx322_1)
  (try rw [Addr.add_zero'] at hx322_2)
  have HR322_2:=aQ hi322_2
  have HC322_2:=aQ hl322_2
  clear hi322_2 hl322_2
  replace p322:=eq_true p322
  replace q322:=eq_true q322
  have p326:0 ≤ (1:Int):=(by omega)
  have q326:1 < (l0_2.length:Int):=of_decide_eq_true (by first | (with_reducible assumption) | assumption)
  obtain ⟨ad326,A326_2,c326_2,e326,hx326_0,hx326_1,hx326_2,hl326_2,hi326_2⟩:=at_T29 (Kd.V_reads' HO0_2.out).2.2 1 p326 q326
  obtain rfl:ad322 = ad326:=(by injection e326)
  obtain ⟨ce326,hce326,hMe326,hcc326⟩:=Kd.V_get HO0_2.out z29 1 p326 (by first | exact q326 | exact of_decide_eq_true (by first | (with_reducible assumption) | assumption) | (have e_:=(Kd.V_reads' HO0_2.out).1;omega))
  obtain ⟨ua326_2,uc326_2,rfl,ul326_2,ge326_2⟩:=k29_openF hMe326
  have hv326_2:=hcc326 2 _ rfl
  rw [add_field _ _ 2 (by omega)] at hv326_2
  replace hv326_2:=Option.some.inj (hv326_2.symm.trans hx326_2)
  injection hv326_2 with hva_ hvn_ hvc_
  rw [hva_] at ge326_2
  rw [hvc_] at ul326_2
  have HL326_2:=aQ (show Kd.V k29 29 _ w.heap.size _ _ ((rd_T29 l0_2 1).f2) from Kd.V_mk ul326_2 ge326_2)
  clear hva_ hvn_ hvc_ ge326_2 ul326_2
  clear hcc326 hce326
  (try simp only [show (1:Int).toNat = 1 from rfl,Nat.reduceMul,Nat.reduceEqDiff,Go.Addr.add,↓reduceIte] at hx326_0)
  (try simp only [show (1:Int).toNat = 1 from rfl,Nat.reduceMul,Nat.reduceEqDiff,Go.Addr.add,↓reduceIte] at hx326_1)
  (try simp only [show (1:Int).toNat = 1 from rfl,Nat.reduceMul,Nat.reduceEqDiff,Go.Addr.add,↓reduceIte] at hx326_2)
  have qi326:(1 < l0_2.length) = True:=eq_true (by omega)
  (try rw [show ((1:Int)).toNat = 1 from rfl,show 1 * 3 = 3 from rfl] at hx326_0 hx326_1 hx326_2)
  have HR326_2:=aQ hi326_2
  have HC326_2:=aQ hl326_2
  clear hi326_2 hl326_2
  replace p326:=eq_true p326
  replace q326:=eq_true q326
  refine start_ (n:=12) (S:=fun w'=>w'.cell? ⟨gb317,0,none⟩ = some (.int .i64 a0_0)∧w'.cell? ⟨gb317,1,none⟩ = some (.int .i64 a0_1)∧w'.cell? ⟨gb317,2,none⟩ = some (.slice (some ad322) l0_2.length c0_2)∧w'.cell? ad322 = some (.int .i64 ((rd_T29 l0_2 0).f0))∧w'.cell? ⟨ad322.block,ad322.off + 1,none⟩ = some (.int .i64 ((rd_T29 l0_2 0).f1))∧w'.cell? ⟨ad322.block,ad322.off + 2,none⟩ = some (.slice A322_2 ((rd_T29 l0_2 0).f2).length c322_2)∧w'.cell? ⟨ad322.block,ad322.off + 3,none⟩ = some (.int .i64 ((rd_T29 l0_2 1).f0))∧w'.cell? ⟨ad322.block,ad322.off + 3 + 1,none⟩ = some (.int .i64 ((rd_T29 l0_2 1).f1))∧w'.cell? ⟨ad322.block,ad322.off + 3 + 2,none⟩ = some (.slice A326_2 ((rd_T29 l0_2 1).f2).length c326_2)) (ds:=[10]) (bn 12 0) (by kernel_rfl) rfl rfl ⟨(blk_cell BK317.out 0).trans rfl,(blk_cell BK317.out 1).trans rfl,(blk_cell BK317.out 2).trans rfl,hx322_0,hx322_1,hx322_2,hx326_0,hx326_1,hx326_2⟩ (fun hHeld=>?_);refine with_tabW impl_ticksOf.tab5 impl_ticksOf.bits5 (fun HT_ HW_=>?_)
  generalize w15.drew = w17 at HO0_2 BK317 HB HL322_2 HL326_2 HR322_2 HR326_2 hx322_0 hx322_1 hx322_2 hx326_0 hx326_1 hx326_2 hHeld ⊢
  refine pur (i:=0) (N:=some 28) (bn 12 1) ?_
  refine pur (i:=5) (N:=some 33) (bn 12 33) ?_
  refine tak (i:=1) (N:=some 29) (bn 12 35) ?_
  refine pur (i:=2) (N:=some 30) (bn 12 39) ?_
  refine tak (i:=3) (N:=some 31) (bn 12 47) ?_
  refine tak (i:=6) (N:=some 34) (bn 12 111) ?_
  refine pur (i:=7) (N:=some 35) (bn 12 239) ?_
  refine tak (i:=8) (N:=some 36) (bn 12 495) ?_
  refine one_ (i:=4) (N:=some 32) (bn 12 511) rfl rfl (one_of HT_.out (by kernel_rfl)) (by decide) (fun K hK=>?_)
  refine goes1 Try.func47 #[.agg #[.int .i64 ((rd_T29 l0_2 0).f0),.int .i64 ((rd_T29 l0_2 0).f1),.slice A322_2 ((rd_T29 l0_2 0).f2).length c322_2]] ?_
  with_reducible refine (ih k (by omega) ((rd_T29 l0_2 0).f0) ((rd_T29 l0_2 0).f1) (fun k_=>((P0_2_ k_ ∨ w.heap.size ≤ k_)∧k_ ≠ gb317)) _ _ ((rd_T29 l0_2 0).f2) t323 _ ?side1 A11.out).mono ?_
  (case side1=>exact HL322_2.out)
  rintro e w18 ⟨v324,rfl,ho0,hb⟩
  have HS3_:=(hb.cell (World.block_lt_of_cell? _ _ (hHeld.2.2.2.1))).trans (hHeld.2.2.2.1)
  have HS4_:=(hb.cell (World.block_lt_of_cell? _ _ (hHeld.2.2.2.2.1))).trans (hHeld.2.2.2.2.1)
  have HS5_:=(hb.cell (World.block_lt_of_cell? _ _ (hHeld.2.2.2.2.2.1))).trans (hHeld.2.2.2.2.2.1)
  have HS6_:=(hb.cell (World.block_lt_of_cell? _ _ (hHeld.2.2.2.2.2.2.1))).trans (hHeld.2.2.2.2.2.2.1)
  have HS7_:=(hb.cell (World.block_lt_of_cell? _ _ (hHeld.2.2.2.2.2.2.2.1))).trans (hHeld.2.2.2.2.2.2.2.1)
  have HS8_:=(hb.cell (World.block_lt_of_cell? _ _ (hHeld.2.2.2.2.2.2.2.2))).trans (hHeld.2.2.2.2.2.2.2.2)
  refine ⟨_,rfl,?_⟩
  replace HO0_2:=aQ (Kd.V_elder' (nV HO0_2.out) (Kd.N_base ho0) hb)
  replace HL322_2:=aQ (Kd.V_elder' (nV HL322_2.out) (Kd.N_base ho0) hb)
  replace HL326_2:=aQ (Kd.V_elder' (nV HL326_2.out) (Kd.N_base ho0) hb)
  have HO325:=aQ (Kd.N_lower (Kd.N_mono (ok':=fun k_=>(P0_2_ k_ ∨ w.heap.size ≤ k_)∧k_ ≠ gb317) ho0 (fun k_ hk_=>⟨Or.elim hk_ (fun hs_=>hs_.1) (fun hn_=>(.inr (Nat.le_trans (below_size bB) hn_))),Or.elim hk_ (fun hs_=>hs_.2) (fun hn_=>(Kd.freshB (nB BK317.out) k_ hn_))⟩)) (below_size bB))
  replace BK317:=aQ (blk_below (nB BK317.out) hb)
  replace HR322_2:=aQ (Kd.C_below (nC HR322_2.out) hb)
  replace HR326_2:=aQ (Kd.C_below (nC HR326_2.out) hb)
  replace HB:=aQ (below_step bB hb)
  (try clear hb)
  (try clear ho0)
  refine hK.out _ _ ⟨(blk_cell BK317.out 0).trans rfl,(blk_cell BK317.out 1).trans rfl,(blk_cell BK317.out 2).trans rfl,HS3_,HS4_,HS5_,HS6_,HS7_,HS8_⟩ (fun hHeld=>?_)
  clear hK K
  refine nrm (N:=some 32) ?_
  refine one_ (i:=9) (N:=some 37) (bn 12 1023) rfl rfl (one_of HT_.out (by kernel_rfl)) (by decide) (fun K hK=>?_)
  refine goes1 Try.func47 #[.agg #[.int .i64 ((rd_T29 l0_2 1).f0),.int .i64 ((rd_T29 l0_2 1).f1),.slice A326_2 ((rd_T29 l0_2 1).f2).length c326_2]] ?_
  with_reducible refine (ih k (by omega) ((rd_T29 l0_2 1).f0) ((rd_T29 l0_2 1).f1) (fun k_=>(((P0_2_ k_ ∨ w.heap.size ≤ k_)∧k_ ≠ gb317)∧some k_ ≠ (v324:Value).ownBlock)) _ _ ((rd_T29 l0_2 1).f2) t327 _ ?side1 A13.out).mono ?_
  (case side1=>exact HL326_2.out)
  rintro e w19 ⟨v328,rfl,ho0,hb⟩
  have HS3_:=(hb.cell (World.block_lt_of_cell? _ _ (hHeld.2.2.2.1))).trans (hHeld.2.2.2.1)
  have HS4_:=(hb.cell (World.block_lt_of_cell? _ _ (hHeld.2.2.2.2.1))).trans (hHeld.2.2.2.2.1)
  have HS5_:=(hb.cell (World.block_lt_of_cell? _ _ (hHeld.2.2.2.2.2.1))).trans (hHeld.2.2.2.2.2.1)
  have HS6_:=(hb.cell (World.block_lt_of_cell? _ _ (hHeld.2.2.2.2.2.2.1))).trans (hHeld.2.2.2.2.2.2.1)
  have HS7_:=(hb.cell (World.block_lt_of_cell? _ _ (hHeld.2.2.2.2.2.2.2.1))).trans (hHeld.2.2.2.2.2.2.2.1)
  have HS8_:=(hb.cell (World.block_lt_of_cell? _ _ (hHeld.2.2.2.2.2.2.2.2))).trans (hHeld.2.2.2.2.2.2.2.2)
  refine ⟨_,rfl,?_⟩
  replace HO0_2:=aQ (Kd.V_elder' (nV HO0_2.out) (Kd.N_base ho0) hb)
  replace HL322_2:=aQ (Kd.V_elder' (nV HL322_2.out) (Kd.N_base ho0) hb)
  replace HL326_2:=aQ (Kd.V_elder' (nV HL326_2.out) (Kd.N_base ho0) hb)
  have HO329:=aQ (Kd.N_lower (Kd.N_mono (ok':=fun k_=>(P0_2_ k_ ∨ w.heap.size ≤ k_)∧some k_ ≠ (v324:Value).ownBlock∧k_ ≠ gb317) ho0 (fun k_ hk_=>⟨Or.elim hk_ (fun hs_=>hs_.1.1) (fun hn_=>(.inr (Nat.le_trans (below_size bB) hn_))),Or.elim hk_ (fun hs_=>hs_.2) (fun hn_=>(Kd.fresh' (Kd.N_lt (nN HO325.out)) k_ hn_)),Or.elim hk_ (fun hs_=>hs_.1.2) (fun hn_=>(Kd.freshB (nB BK317.out) k_ hn_))⟩)) (below_size bB))
  replace HO325:=aQ (Kd.N_elder' (nN HO325.out) (Kd.N_base ho0) hb)
  replace BK317:=aQ (blk_below (nB BK317.out) hb)
  replace HR322_2:=aQ (Kd.C_below (nC HR322_2.out) hb)
  replace HR326_2:=aQ (Kd.C_below (nC HR326_2.out) hb)
  replace HB:=aQ (below_step bB hb)
  (try clear hb)
  (try clear ho0)
  obtain ⟨Ao21,co21,eo21⟩:=Kd.N_slice HO329.out
  (first | subst eo21 | (injection eo21 with f1_ f2_ f3_;have f4_:=f1_.symm;have f5_:=f3_.symm;clear f1_ f2_ f3_;subst f4_;subst f5_))
  refine hK.out _ _ ⟨(blk_cell BK317.out 0).trans rfl,(blk_cell BK317.out 1).trans rfl,(blk_cell BK317.out 2).trans rfl,HS3_,HS4_,HS5_,HS6_,HS7_,HS8_⟩ (fun hHeld=>?_)
  clear hK K
  refine nrm (N:=some 37) ?_
  refine last_ (i:=10) (N:=some 38) (bn 12 2047) rfl rfl (one_of HT_.out (by kernel_rfl)) (by decide) (fun K hK=>?_)
  refine Kd.N_append_rows_step k44 (w0:=w) w.heap.size (by rfl) (.tmp 32) (.tmp 37) 35 44 (.agg #[(.int .i64 0),(.int .i64 0),(.int .i64 0),(.slice none 0 0)]) 48 rfl Try.underlying35 info44 rfl (by decide) (by omega) v324 t323 t327 _ _ _ (fun k_=>(P0_2_ k_ ∨ w.heap.size ≤ k_)∧k_ ≠ gb317) (fun k_=>((fun k_=>(P0_2_ k_ ∨ w.heap.size ≤ k_)∧k_ ≠ gb317)) k_∧some k_ ≠ (v324:Value).ownBlock) rfl rfl ?aO ?aR (fun _ hk=>hk) ?aF ?aB ?aS ?aL ?_
  (case aR=>exact (by skip;exact Kd.N_F (Kd.N_mono (ok':=(fun k_=>((fun k_=>(P0_2_ k_ ∨ w.heap.size ≤ k_)∧k_ ≠ gb317)) k_∧some k_ ≠ (v324:Value).ownBlock)) (HO329.out) (fun k_ hk=>⟨⟨hk.1,hk.2.2⟩,hk.2.1⟩))))
  (case aB=>exact bB)
  (case aF=>exact (fun k_ hk=>⟨(.inr (Nat.le_trans (below_size bB) hk)),Kd.freshB (nB BK317.out) k_ hk⟩))
  (case aO=>exact (nN (Kd.N_mono HO325.out (fun _ hk=>⟨hk.1.1,hk.1.2⟩))))
  (case aS=>exact (below_size bB))
  (case aL=>have:=LMc14.out;omega)
  intro v331 w20 ho hb hg hat
  rw [← Ny330.out] at ho
  have n0_:=aQ (Kd.V_afterv (ok:=(fun k_=>(P0_2_ k_ ∨ w.heap.size ≤ k_)∧some k_ ≠ (.slice Ao21 t327.length co21:Value).ownBlock∧k_ ≠ gb317)) (nV (Kd.V_mono HO0_2.out (fun _ hk=>⟨⟨hk.1.1.1,⟨hk.2,hk.1.1.2⟩⟩,hk.1.2⟩))) hg hat)
  have n1_:=aQ (blk_grown (nB BK317.out) hg (Kd.N_ne HO325.out BK317.out (by decide)))
  have n2_:=aQ (Kd.V_afterv (ok:=(fun k_=>(P0_2_ k_ ∨ w.heap.size ≤ k_)∧some k_ ≠ (.slice Ao21 t327.length co21:Value).ownBlock∧k_ ≠ gb317)) (nV (Kd.V_mono HL322_2.out (fun _ hk=>⟨⟨hk.1.1.1,⟨hk.2,hk.1.1.2⟩⟩,hk.1.2⟩))) hg hat)
  have n3_:=aQ (Kd.V_afterv (ok:=(fun k_=>(P0_2_ k_ ∨ w.heap.size ≤ k_)∧some k_ ≠ (.slice Ao21 t327.length co21:Value).ownBlock∧k_ ≠ gb317)) (nV (Kd.V_mono HL326_2.out (fun _ hk=>⟨⟨hk.1.1.1,⟨hk.2,hk.1.1.2⟩⟩,hk.1.2⟩))) hg hat)
  have n4_:=aQ (Kd.N_afterv (ok:=(fun k_=>(P0_2_ k_ ∨ w.heap.size ≤ k_)∧k_ ≠ gb317)) (nN (Kd.N_mono HO329.out (fun _ hk=>⟨⟨hk.1,hk.2.2⟩,hk.2.1⟩))) hg hat)
  have n5_:=aQ (hb)
  have n6_:=aQ (ho)
  clear HO0_2 BK317 HL322_2 HL326_2 HO329 HB HO325
  have HO0_2:=n0_
  have BK317:=n1_
  have HL322_2:=n2_
  have HL326_2:=n3_
  have HO329:=n4_
  have HB:=n5_
  have HO332:=n6_
  clear n0_ n1_ n2_ n3_ n4_ n5_ n6_
  clear ho hb hg hat
  refine hK.out _ _ ?_
  clear hK K
  refine nrm (N:=some 38) ?_
  refine pur (i:=11) (N:=some 2) (bn 12 4095) ?_
  refine done_ (done_of HT_.out (by kernel_rfl)) ?_
  try go_wp2
  go_ret
  exact ⟨_,rfl,by (with_reducible repeat (first | apply Kd.N_alloc | apply Kd.N_drewN | apply Kd.N_drew));exact Kd.N_mono HO332.out (fun _ hk=>hk.1),bB⟩
 rw [if_neg c9] at H
 have c9b0:(a0_0 == 3) = false:=beq_eq_false_iff_ne.mpr c9
 have c9b1:(a0_0 != 3) = true:=bne_iff_ne.mpr c9
 by_cases c22:a0_0 = 4;rotate_left
 ·rw [if_neg c22] at H
  have c22b0:(a0_0 == 4) = false:=beq_eq_false_iff_ne.mpr c22
  have c22b1:(a0_0 != 4) = true:=bne_iff_ne.mpr c22
  obtain rfl:=Option.some.inj H
  go_enter Try.func47,Try.ntmps47
  go_wp2_with (first | ((with_reducible refine gate_dst (N:=1) rfl ?_);refine box1 (N:=1) (cs:=#[.int .i64 a0_0,.int .i64 a0_1,.slice A0_2 l0_2.length c0_2]) (t:=29) ?_;intro gb317 hg w100 hbox hb;replace HO0_2:=aQ (Kd.V_below (Kd.V_elderB (nV HO0_2.out) gb317 (Nat.le_of_eq hg.symm)) hb);have BK317:=aQ (hbox);have GW317:=aQ (gB:w.heap.size ≤ gb317);have GE317:=GW317;replace HB:=aQ (below_step bB hb);clear hb hbox hg;obtain ⟨hcz101_0,hcz101_1,hcz101_2,hfz101_0,hfz101_1,hfz101_2⟩:=cz3 BK317.out))
  go_ret
  exact ⟨_,rfl,by first | exact Kd.R_nil _ _ _ _ _ | exact Kd.N_nil _ _ _ _ _ | exact Kd.V_nil _ _ _ _ _ | exact Kd.Q_nil _ _ _ _ _ | exact Kd.S_nil _ _ _ _ _,bB⟩
 rw [if_pos c22] at H
 have c22b0:(a0_0 == 4) = true:=beq_iff_eq.mpr c22
 have c22b1:(a0_0 != 4) = false:=bne_eq_false_iff_eq.mpr c22
 clear c22
 by_cases c23:0 < (l0_2.length:Int);rotate_left
 ·rw [if_neg c23] at H
  exact absurd H (by simp)
 rw [if_pos c23] at H
 have c23b0:decide (0 < (l0_2.length:Int)) = true:=decide_eq_true c23
 have c23b1:decide (0 < l0_2.length) = true:=decide_eq_true (by omega)
 clear c23
 obtain ⟨t334,A24,H⟩:=bQ H
 (try dsimp only at H)
 by_cases c25:1 < (l0_2.length:Int);rotate_left
 ·rw [if_neg c25] at H
  exact absurd H (by simp)
 rw [if_pos c25] at H
 have c25b0:decide (1 < (l0_2.length:Int)) = true:=decide_eq_true c25
 have c25b1:decide (1 < l0_2.length) = true:=decide_eq_true (by omega)
 clear c25
 obtain ⟨t338,A26,H⟩:=bQ H
 (try dsimp only at H)
 obtain ⟨y341,hy341⟩:∃ y_:List (S44),y_ = (([]:List (S44))):=⟨_,rfl⟩
 replace H:(impl_ticksOf.l0 k t334 t338 y341 t334 (t334.length:Int) 0 a0_0 a0_1 l0_2) = some r:=by rw [hy341];exact H
 have Ny341:=aQ hy341
 clear hy341
 have H':=aQ H
 clear H
 go_enter Try.func47,Try.ntmps47
 try go_wp2_with (first | ((with_reducible refine gate_dst (N:=1) rfl ?_);refine box1 (N:=1) (cs:=#[.int .i64 a0_0,.int .i64 a0_1,.slice A0_2 l0_2.length c0_2]) (t:=29) ?_;intro gb317 hg w27 hbox hb;replace HO0_2:=aQ (Kd.V_below (Kd.V_elderB (nV HO0_2.out) gb317 (Nat.le_of_eq hg.symm)) hb);have BK317:=aQ (hbox);have GW317:=aQ (gB:w.heap.size ≤ gb317);have GE317:=GW317;replace HB:=aQ (below_step bB hb);clear hb hbox hg;obtain ⟨hcz28_0,hcz28_1,hcz28_2,hfz28_0,hfz28_1,hfz28_2⟩:=cz3 BK317.out))
 replace HO0_2:=aQ (Kd.V_drew HO0_2.out)
 replace BK317:=aQ (blk_drew BK317.out)
 replace HB:=aQ (below_drew1 HB.out)
 have p333:0 ≤ (0:Int):=(by omega)
 have q333:0 < (l0_2.length:Int):=of_decide_eq_true (by first | (with_reducible assumption) | assumption)
 obtain ⟨ad333,A333_2,c333_2,e333,hx333_0,hx333_1,hx333_2,hl333_2,hi333_2⟩:=at_T29 (Kd.V_reads' HO0_2.out).2.2 0 p333 q333
 cases e333
 obtain ⟨ce333,hce333,hMe333,hcc333⟩:=Kd.V_get HO0_2.out z29 0 p333 (by first | exact q333 | exact of_decide_eq_true (by first | (with_reducible assumption) | assumption) | (have e_:=(Kd.V_reads' HO0_2.out).1;omega))
 obtain ⟨ua333_2,uc333_2,rfl,ul333_2,ge333_2⟩:=k29_openF hMe333
 have hv333_2:=hcc333 2 _ rfl
 rw [add_field _ _ 2 (by omega)] at hv333_2
 replace hv333_2:=Option.some.inj (hv333_2.symm.trans hx333_2)
 injection hv333_2 with hva_ hvn_ hvc_
 rw [hva_] at ge333_2
 rw [hvc_] at ul333_2
 have HL333_2:=aQ (show Kd.V k29 29 _ w.heap.size _ _ ((rd_T29 l0_2 0).f2) from Kd.V_mk ul333_2 ge333_2)
 clear hva_ hvn_ hvc_ ge333_2 ul333_2
 clear hcc333 hce333
 have qi333:(0 < l0_2.length) = True:=eq_true (by omega)
 (try rw [show ((0:Int)).toNat = 0 from rfl,show 0 * 3 = 0 from rfl] at hx333_0 hx333_1 hx333_2)
 (try rw [Addr.add_zero'] at hx333_0)
 (try rw [Addr.add_zero'] at hx333_1)
 (try rw [Addr.add_zero'] at hx333_2)
 have HR333_2:=aQ hi333_2
 have HC333_2:=aQ hl333_2
 clear hi333_2 hl333_2
 replace p333:=eq_true p333
 replace q333:=eq_true q333
 have p337:0 ≤ (1:Int):=(by omega)
 have q337:1 < (l0_2.length:Int):=of_decide_eq_true (by first | (with_reducible assumption) | assumption)
 obtain ⟨ad337,A337_2,c337_2,e337,hx337_0,hx337_1,hx337_2,hl337_2,hi337_2⟩:=at_T29 (Kd.V_reads' HO0_2.out).2.2 1 p337 q337
 obtain rfl:ad333 = ad337:=(by injection e337)
 obtain ⟨ce337,hce337,hMe337,hcc337⟩:=Kd.V_get HO0_2.out z29 1 p337 (by first | exact q337 | exact of_decide_eq_true (by first | (with_reducible assumption) | assumption) | (have e_:=(Kd.V_reads' HO0_2.out).1;omega))
 obtain ⟨ua337_2,uc337_2,rfl,ul337_2,ge337_2⟩:=k29_openF hMe337
 have hv337_2:=hcc337 2 _ rfl
 rw [add_field _ _ 2 (by omega)] at hv337_2
 replace hv337_2:=Option.some.inj (hv337_2.symm.trans hx337_2)
 injection hv337_2 with hva_ hvn_ hvc_
 rw [hva_] at ge337_2
 rw [hvc_] at ul337_2
 have HL337_2:=aQ (show Kd.V k29 29 _ w.heap.size _ _ ((rd_T29 l0_2 1).f2) from Kd.V_mk ul337_2 ge337_2)
 clear hva_ hvn_ hvc_ ge337_2 ul337_2
 clear hcc337 hce337
 (try simp only [show (1:Int).toNat = 1 from rfl,Nat.reduceMul,Nat.reduceEqDiff,Go.Addr.add,↓reduceIte] at hx337_0)
 (try simp only [show (1:Int).toNat = 1 from rfl,Nat.reduceMul,Nat.reduceEqDiff,Go.Addr.add,↓reduceIte] at hx337_1)
 (try simp only [show (1:Int).toNat = 1 from rfl,Nat.reduceMul,Nat.reduceEqDiff,Go.Addr.add,↓reduceIte] at hx337_2)
 have qi337:(1 < l0_2.length) = True:=eq_true (by omega)
 (try rw [show ((1:Int)).toNat = 1 from rfl,show 1 * 3 = 3 from rfl] at hx337_0 hx337_1 hx337_2)
 have HR337_2:=aQ hi337_2
 have HC337_2:=aQ hl337_2
 clear hi337_2 hl337_2
 replace p337:=eq_true p337
 replace q337:=eq_true q337
 refine start_ (n:=12) (S:=fun w'=>w'.cell? ⟨gb317,0,none⟩ = some (.int .i64 a0_0)∧w'.cell? ⟨gb317,1,none⟩ = some (.int .i64 a0_1)∧w'.cell? ⟨gb317,2,none⟩ = some (.slice (some ad333) l0_2.length c0_2)∧w'.cell? ad333 = some (.int .i64 ((rd_T29 l0_2 0).f0))∧w'.cell? ⟨ad333.block,ad333.off + 1,none⟩ = some (.int .i64 ((rd_T29 l0_2 0).f1))∧w'.cell? ⟨ad333.block,ad333.off + 2,none⟩ = some (.slice A333_2 ((rd_T29 l0_2 0).f2).length c333_2)∧w'.cell? ⟨ad333.block,ad333.off + 3,none⟩ = some (.int .i64 ((rd_T29 l0_2 1).f0))∧w'.cell? ⟨ad333.block,ad333.off + 3 + 1,none⟩ = some (.int .i64 ((rd_T29 l0_2 1).f1))∧w'.cell? ⟨ad333.block,ad333.off + 3 + 2,none⟩ = some (.slice A337_2 ((rd_T29 l0_2 1).f2).length c337_2)) (ds:=[]) (bn 12 0) (by kernel_rfl) rfl rfl ⟨(blk_cell BK317.out 0).trans rfl,(blk_cell BK317.out 1).trans rfl,(blk_cell BK317.out 2).trans rfl,hx333_0,hx333_1,hx333_2,hx337_0,hx337_1,hx337_2⟩ (fun hHeld=>?_);refine with_tabW impl_ticksOf.tab7 impl_ticksOf.bits7 (fun HT_ HW_=>?_)
 generalize w27.drew = w29 at HO0_2 BK317 HB HL333_2 HL337_2 HR333_2 HR337_2 hx333_0 hx333_1 hx333_2 hx337_0 hx337_1 hx337_2 hHeld ⊢
 refine pur (i:=0) (N:=some 41) (bn 12 1) ?_
 refine pur (i:=5) (N:=some 46) (bn 12 33) ?_
 refine tak (i:=1) (N:=some 42) (bn 12 35) ?_
 refine pur (i:=2) (N:=some 43) (bn 12 39) ?_
 refine tak (i:=3) (N:=some 44) (bn 12 47) ?_
 refine tak (i:=6) (N:=some 47) (bn 12 111) ?_
 refine pur (i:=7) (N:=some 48) (bn 12 239) ?_
 refine tak (i:=8) (N:=some 49) (bn 12 495) ?_
 refine one_ (i:=4) (N:=some 45) (bn 12 511) rfl rfl (one_of HT_.out (by kernel_rfl)) (by decide) (fun K hK=>?_)
 refine goes1 Try.func47 #[.agg #[.int .i64 ((rd_T29 l0_2 0).f0),.int .i64 ((rd_T29 l0_2 0).f1),.slice A333_2 ((rd_T29 l0_2 0).f2).length c333_2]] ?_
 with_reducible refine (ih k (by omega) ((rd_T29 l0_2 0).f0) ((rd_T29 l0_2 0).f1) (fun k_=>((P0_2_ k_ ∨ w.heap.size ≤ k_)∧k_ ≠ gb317)) _ _ ((rd_T29 l0_2 0).f2) t334 _ ?side1 A24.out).mono ?_
 (case side1=>exact HL333_2.out)
 rintro e w30 ⟨v335,rfl,ho0,hb⟩
 have HS3_:=(hb.cell (World.block_lt_of_cell? _ _ (hHeld.2.2.2.1))).trans (hHeld.2.2.2.1)
 have HS4_:=(hb.cell (World.block_lt_of_cell? _ _ (hHeld.2.2.2.2.1))).trans (hHeld.2.2.2.2.1)
 have HS5_:=(hb.cell (World.block_lt_of_cell? _ _ (hHeld.2.2.2.2.2.1))).trans (hHeld.2.2.2.2.2.1)
 have HS6_:=(hb.cell (World.block_lt_of_cell? _ _ (hHeld.2.2.2.2.2.2.1))).trans (hHeld.2.2.2.2.2.2.1)
 have HS7_:=(hb.cell (World.block_lt_of_cell? _ _ (hHeld.2.2.2.2.2.2.2.1))).trans (hHeld.2.2.2.2.2.2.2.1)
 have HS8_:=(hb.cell (World.block_lt_of_cell? _ _ (hHeld.2.2.2.2.2.2.2.2))).trans (hHeld.2.2.2.2.2.2.2.2)
 refine ⟨_,rfl,?_⟩
 replace HO0_2:=aQ (Kd.V_elder' (nV HO0_2.out) (Kd.N_base ho0) hb)
 replace HL333_2:=aQ (Kd.V_elder' (nV HL333_2.out) (Kd.N_base ho0) hb)
 replace HL337_2:=aQ (Kd.V_elder' (nV HL337_2.out) (Kd.N_base ho0) hb)
 have HO336:=aQ (Kd.N_lower (Kd.N_mono (ok':=fun k_=>(P0_2_ k_ ∨ w.heap.size ≤ k_)∧k_ ≠ gb317) ho0 (fun k_ hk_=>⟨Or.elim hk_ (fun hs_=>hs_.1) (fun hn_=>(.inr (Nat.le_trans (below_size bB) hn_))),Or.elim hk_ (fun hs_=>hs_.2) (fun hn_=>(Kd.freshB (nB BK317.out) k_ hn_))⟩)) (below_size bB))
 replace BK317:=aQ (blk_below (nB BK317.out) hb)
 replace HR333_2:=aQ (Kd.C_below (nC HR333_2.out) hb)
 replace HR337_2:=aQ (Kd.C_below (nC HR337_2.out) hb)
 replace HB:=aQ (below_step bB hb)
 (try clear hb)
 (try clear ho0)
 refine hK.out _ _ ⟨(blk_cell BK317.out 0).trans rfl,(blk_cell BK317.out 1).trans rfl,(blk_cell BK317.out 2).trans rfl,HS3_,HS4_,HS5_,HS6_,HS7_,HS8_⟩ (fun hHeld=>?_)
 clear hK K
 refine nrm (N:=some 45) ?_
 refine one_ (i:=9) (N:=some 50) (bn 12 1023) rfl rfl (one_of HT_.out (by kernel_rfl)) (by decide) (fun K hK=>?_)
 refine goes1 Try.func47 #[.agg #[.int .i64 ((rd_T29 l0_2 1).f0),.int .i64 ((rd_T29 l0_2 1).f1),.slice A337_2 ((rd_T29 l0_2 1).f2).length c337_2]] ?_
 with_reducible refine (ih k (by omega) ((rd_T29 l0_2 1).f0) ((rd_T29 l0_2 1).f1) (fun k_=>(((P0_2_ k_ ∨ w.heap.size ≤ k_)∧k_ ≠ gb317)∧some k_ ≠ (v335:Value).ownBlock)) _ _ ((rd_T29 l0_2 1).f2) t338 _ ?side1 A26.out).mono ?_
 (case side1=>exact HL337_2.out)
 rintro e w31 ⟨v339,rfl,ho0,hb⟩
 have HS3_:=(hb.cell (World.block_lt_of_cell? _ _ (hHeld.2.2.2.1))).trans (hHeld.2.2.2.1)
 have HS4_:=(hb.cell (World.block_lt_of_cell? _ _ (hHeld.2.2.2.2.1))).trans (hHeld.2.2.2.2.1)
 have HS5_:=(hb.cell (World.block_lt_of_cell? _ _ (hHeld.2.2.2.2.2.1))).trans (hHeld.2.2.2.2.2.1)
 have HS6_:=(hb.cell (World.block_lt_of_cell? _ _ (hHeld.2.2.2.2.2.2.1))).trans (hHeld.2.2.2.2.2.2.1)
 have HS7_:=(hb.cell (World.block_lt_of_cell? _ _ (hHeld.2.2.2.2.2.2.2.1))).trans (hHeld.2.2.2.2.2.2.2.1)
 have HS8_:=(hb.cell (World.block_lt_of_cell? _ _ (hHeld.2.2.2.2.2.2.2.2))).trans (hHeld.2.2.2.2.2.2.2.2)
 refine ⟨_,rfl,?_⟩
 replace HO0_2:=aQ (Kd.V_elder' (nV HO0_2.out) (Kd.N_base ho0) hb)
 replace HL333_2:=aQ (Kd.V_elder' (nV HL333_2.out) (Kd.N_base ho0) hb)
 replace HL337_2:=aQ (Kd.V_elder' (nV HL337_2.out) (Kd.N_base ho0) hb)
 have HO340:=aQ (Kd.N_lower (Kd.N_mono (ok':=fun k_=>(P0_2_ k_ ∨ w.heap.size ≤ k_)∧some k_ ≠ (v335:Value).ownBlock∧k_ ≠ gb317) ho0 (fun k_ hk_=>⟨Or.elim hk_ (fun hs_=>hs_.1.1) (fun hn_=>(.inr (Nat.le_trans (below_size bB) hn_))),Or.elim hk_ (fun hs_=>hs_.2) (fun hn_=>(Kd.fresh' (Kd.N_lt (nN HO336.out)) k_ hn_)),Or.elim hk_ (fun hs_=>hs_.1.2) (fun hn_=>(Kd.freshB (nB BK317.out) k_ hn_))⟩)) (below_size bB))
 replace HO336:=aQ (Kd.N_elder' (nN HO336.out) (Kd.N_base ho0) hb)
 replace BK317:=aQ (blk_below (nB BK317.out) hb)
 replace HR333_2:=aQ (Kd.C_below (nC HR333_2.out) hb)
 replace HR337_2:=aQ (Kd.C_below (nC HR337_2.out) hb)
 replace HB:=aQ (below_step bB hb)
 (try clear hb)
 (try clear ho0)
 refine hK.out _ _ ⟨(blk_cell BK317.out 0).trans rfl,(blk_cell BK317.out 1).trans rfl,(blk_cell BK317.out 2).trans rfl,HS3_,HS4_,HS5_,HS6_,HS7_,HS8_⟩ (fun hHeld=>?_)
 clear hK K
 refine nrm (N:=some 50) ?_
 refine pur (i:=10) (N:=some 3) (bn 12 2047) ?_
 refine pur (i:=11) (N:=some 4) (bn 12 4095) ?_
 refine done_ (done_of HT_.out (by kernel_rfl)) ?_
 try go_wp2_with (first | ((with_reducible refine gate_dst (N:=51) rfl ?_);refine Kd.N_lit k44 _ 44 ?hg (N':=51) ?hd (xs:=([]:List (S44))) (inner:=[]) (ok:=(fun k_=>(P0_2_ k_ ∨ w.heap.size ≤ k_)∧some k_ ≠ (v335:Value).ownBlock∧some k_ ≠ (v339:Value).ownBlock∧k_ ≠ gb317)) (okp:=(fun k_=>(P0_2_ k_ ∨ w.heap.size ≤ k_)∧some k_ ≠ (v335:Value).ownBlock∧some k_ ≠ (v339:Value).ownBlock∧k_ ≠ gb317)) ?hr ?hp (fun _ hk=>hk) ((show ∀ k_,w31.heap.size ≤ k_ → (fun k_=>(P0_2_ k_ ∨ w.heap.size ≤ k_)∧some k_ ≠ (v335:Value).ownBlock∧some k_ ≠ (v339:Value).ownBlock∧k_ ≠ gb317) k_ from fun k_ hk=>⟨(.inr (Nat.le_trans (below_size bB) hk)),Kd.fresh' (Kd.N_lt (nN HO336.out)) k_ hk,Kd.fresh' (Kd.N_lt (nN HO340.out)) k_ hk,Kd.freshB (nB BK317.out) k_ hk⟩) _ (Nat.le_refl _)) (Below.refl _ _) (Nat.le_refl _) (by simp) ?_;(case hd=>rfl);(case hg=>rfl);(case hr=>first | (go_simp;done) | (go_simp;rfl));(case hp=>exact (Reps.none _ _));intro v342 w32 ho33 hb hg_ hnew_;clear hg_ hnew_;(first | rw [← Ny341.out] at ho33 | (simp only [Int.reduceToNat] at ho33;rw [← Ny341.out] at ho33));replace HO0_2:=aQ (Kd.V_elder' (nV HO0_2.out) (Kd.N_base ho33) hb);replace HL333_2:=aQ (Kd.V_elder' (nV HL333_2.out) (Kd.N_base ho33) hb);replace HL337_2:=aQ (Kd.V_elder' (nV HL337_2.out) (Kd.N_base ho33) hb);replace HO336:=aQ (Kd.N_elder' (nN HO336.out) (Kd.N_base ho33) hb);replace HO340:=aQ (Kd.N_elder' (nN HO340.out) (Kd.N_base ho33) hb);have HO343:=aQ (Kd.N_lower ho33 (below_size bB));replace BK317:=aQ (blk_below (nB BK317.out) hb);replace HR333_2:=aQ (Kd.C_below (nC HR333_2.out) hb);replace HR337_2:=aQ (Kd.C_below (nC HR337_2.out) hb);replace HB:=aQ (below_step bB hb);clear hb ho33;obtain ⟨Ao34,co34,eo34⟩:=Kd.N_slice HO336.out;subst eo34))
 go_loopg [5,54] k (fun kq v5 v54 w'=>∃ (x5_1:List (S44)) (x54_1:Int),v54 = .int .i64 x54_1∧Aside0 (impl_ticksOf.l0 kq t334 t338 x5_1 t334 (t334.length:Int) x54_1 a0_0 a0_1 l0_2 = some r)∧Aside0 (kq ≤ k)∧Aside0 (Kd.N k44 44 w' w.heap.size (fun k_=>(P0_2_ k_ ∨ w.heap.size ≤ k_)∧some k_ ≠ (v339:Value).ownBlock∧some k_ ≠ (v5:Value).ownBlock∧k_ ≠ gb317) (.slice Ao34 t334.length co34) t334)∧Aside0 (Kd.N k44 44 w' w.heap.size (fun k_=>(P0_2_ k_ ∨ w.heap.size ≤ k_)∧some k_ ≠ ((.slice Ao34 t334.length co34):Value).ownBlock∧some k_ ≠ (v5:Value).ownBlock∧some k_ ≠ ((.slice Ao34 t334.length co34):Value).ownBlock∧k_ ≠ gb317) v339 t338)∧Aside0 (Kd.N k44 44 w' w.heap.size (fun k_=>(P0_2_ k_ ∨ w.heap.size ≤ k_)∧some k_ ≠ ((.slice Ao34 t334.length co34):Value).ownBlock∧k_ ≠ gb317) v5 x5_1)∧Aside0 (Kd.N k44 44 w' w.heap.size (fun k_=>(P0_2_ k_ ∨ w.heap.size ≤ k_)∧some k_ ≠ (v339:Value).ownBlock∧some k_ ≠ (v5:Value).ownBlock∧k_ ≠ gb317) (.slice Ao34 t334.length co34) t334)∧Aside0 (Kd.V k29 29 w' w.heap.size (fun k_=>(P0_2_ k_ ∨ w.heap.size ≤ k_)∧some k_ ≠ ((.slice Ao34 t334.length co34):Value).ownBlock∧some k_ ≠ (v339:Value).ownBlock∧some k_ ≠ (v5:Value).ownBlock∧some k_ ≠ ((.slice Ao34 t334.length co34):Value).ownBlock∧k_ ≠ gb317) (.slice (some ad333) l0_2.length c0_2) l0_2)∧Aside0 (w'.heap[gb317]? = some (.cells #[.int .i64 a0_0,.int .i64 a0_1,(.slice (some ad333) l0_2.length c0_2)] 29 (0,0)))∧Aside0 (Below w.heap.size w w'))
 case atStart=>exact ⟨(y341),(0),rfl,H',⟨Nat.le_refl _⟩,⟨nN (Kd.N_mono HO336.out (fun _ hk=>⟨hk.1.1.1,⟨hk.1.2,⟨hk.2,hk.1.1.2⟩⟩⟩))⟩,⟨nN (Kd.N_mono HO340.out (fun _ hk=>⟨hk.1.1,⟨hk.1.2.1,⟨hk.2,⟨hk.1.2.1,hk.1.2.2⟩⟩⟩⟩))⟩,⟨nN (Kd.N_mono HO343.out (fun _ hk=>⟨hk.1,⟨hk.2.1,hk.2.2.2⟩⟩))⟩,⟨nN (Kd.N_mono HO336.out (fun _ hk=>⟨hk.1.1.1,⟨hk.1.2,⟨hk.2,hk.1.1.2⟩⟩⟩))⟩,⟨nV (Kd.V_mono HO0_2.out (fun _ hk=>⟨hk.1.1.1.1,⟨hk.1.1.2,⟨hk.1.2,⟨hk.2,⟨hk.1.1.2,hk.1.1.1.2⟩⟩⟩⟩⟩))⟩,⟨nB BK317.out⟩,⟨bB⟩⟩
 case round =>
  clear H'
  try clear c2
  try clear c9
  try clear c9b0
  try clear c9b1
  try clear c22b0
  try clear c22b1
  try clear c23b0
  try clear c23b1
  try clear c25b0
  try clear c25b1
  try clear hcz28_0
  try clear hcz28_1
  try clear hcz28_2
  try clear hfz28_0
  try clear hfz28_1
  try clear hfz28_2
  try clear hx333_0
  try clear hx333_1
  try clear hx333_2
  try clear hx337_0
  try clear hx337_1
  try clear hx337_2
  try clear p333
  try clear p337
  try clear q333
  try clear q337
  repeat (first | clear HO_3 | clear HO_4 | clear HO_5 | clear HO_52 | clear HO_318002 | clear BK317 | clear HB)
  obtain ⟨x5_1,x54_1,rfl,HA,HK1,HO_3,HO_4,HO_5,HO_52,HO_318002,BK317,HB⟩:=hrel
  cases gk with
  | zero=>exact absurd HA.out (by simp [impl_ticksOf.l0])
  | succ k1 =>
   have H:=HA.out
   clear HA
   simp only [impl_ticksOf.l0] at H
   by_cases c35:x54_1 < (t334.length:Int)
   ·rw [if_pos c35] at H
    have c35b0:decide (x54_1 < (t334.length:Int)) = true:=decide_eq_true c35
    clear c35
    by_cases c36:0 ≤ x54_1;rotate_left
    ·rw [if_neg c36] at H
     exact absurd H (by simp)
    rw [if_pos c36] at H
    have c36b0:decide (0 ≤ x54_1) = true:=decide_eq_true c36
    clear c36
    by_cases c37:x54_1 < (t334.length:Int);rotate_left
    ·rw [if_neg c37] at H
     exact absurd H (by simp)
    rw [if_pos c37] at H
    have c37b0:decide (x54_1 < (t334.length:Int)) = true:=decide_eq_true c37
    clear c37
    by_cases c38:1 < (l0_2.length:Int);rotate_left
    ·rw [if_neg c38] at H
     exact absurd H (by simp)
    rw [if_pos c38] at H
    have c38b0:decide (1 < (l0_2.length:Int)) = true:=decide_eq_true c38
    have c38b1:decide (1 < l0_2.length) = true:=decide_eq_true (by omega)
    clear c38
    obtain ⟨⟨t347,t348,t349⟩,A39,H⟩:=bQ H
    dsimp only at H
    by_cases c40:x5_1.length < 2932031007402;rotate_left
    ·rw [if_neg c40] at H
     exact absurd H (by simp)
    rw [if_pos c40] at H
    have LMc40:=aQ c40
    clear c40
    obtain ⟨y352,hy352⟩:∃ y_:List (S44),y_ = (x5_1 ++ [(⟨(rd_T44 t334 x54_1).f0,(⟨t347,t348,t349⟩:S29)⟩:S44)]):=⟨_,rfl⟩
    replace H:(impl_ticksOf.l0 k1 t334 t338 y352 t334 (t334.length:Int) (wrap64 (x54_1 + 1)) a0_0 a0_1 l0_2) = some r:=by rw [hy352];exact H
    have Ny352:=aQ hy352
    clear hy352
    have H':=aQ H
    clear H
    have p344:0 ≤ (x54_1:Int):=of_decide_eq_true (by first | (with_reducible assumption) | assumption)
    have q344:x54_1 < (t334.length:Int):=of_decide_eq_true (by first | (with_reducible assumption) | assumption)
    obtain ⟨ad344,A344_3,c344_3,e344,hx344_0,hx344_1,hx344_2,hx344_3,hl344_3,hi344_3⟩:=at_T44 (Kd.N_reads' HO_52.out).2.2 x54_1 p344 q344
    cases e344
    obtain ⟨ce344,hce344,hMe344,hcc344⟩:=Kd.N_get HO_52.out z44 x54_1 p344 (by first | exact q344 | exact of_decide_eq_true (by first | (with_reducible assumption) | assumption) | (have e_:=(Kd.N_reads' HO_52.out).1;omega))
    obtain ⟨ua344_3,uc344_3,rfl,ul344_3,ge344_3⟩:=k44_openF hMe344
    have hv344_3:=hcc344 3 _ rfl
    rw [add_field _ _ 3 (by omega)] at hv344_3
    replace hv344_3:=Option.some.inj (hv344_3.symm.trans hx344_3)
    injection hv344_3 with hva_ hvn_ hvc_
    rw [hva_] at ge344_3
    rw [hvc_] at ul344_3
    have HL344_3:=aQ (show Kd.V k29 29 _ w.heap.size _ _ ((rd_T44 t334 x54_1).f1.f2) from Kd.V_mk ul344_3 ge344_3)
    clear hva_ hvn_ hvc_ ge344_3 ul344_3
    clear hcc344 hce344
    have HR344_3:=aQ hi344_3
    have HC344_3:=aQ hl344_3
    clear hi344_3 hl344_3
    replace p344:=eq_true p344
    replace q344:=eq_true q344
    try go_wp2_with (first | ((with_reducible refine gate_dst (N:=7) rfl ?_);refine box1 (N:=7) (cs:=#[.int .i64 0,.int .i64 0,.int .i64 0,.slice none 0 0]) (t:=44) ?_;intro gb345 hg w41 hbox hb;replace HO_3:=aQ (Kd.N_below (Kd.N_elderB (nN HO_3.out) gb345 (Nat.le_of_eq hg.symm)) hb);replace HO_4:=aQ (Kd.N_below (Kd.N_elderB (nN HO_4.out) gb345 (Nat.le_of_eq hg.symm)) hb);replace HO_5:=aQ (Kd.N_below (Kd.N_elderB (nN HO_5.out) gb345 (Nat.le_of_eq hg.symm)) hb);replace HO_52:=aQ (Kd.N_below (Kd.N_elderB (nN HO_52.out) gb345 (Nat.le_of_eq hg.symm)) hb);replace HO_318002:=aQ (Kd.V_below (Kd.V_elderB (nV HO_318002.out) gb345 (Nat.le_of_eq hg.symm)) hb);replace HL344_3:=aQ (Kd.V_below (Kd.V_elderB (nV HL344_3.out) gb345 (Nat.le_of_eq hg.symm)) hb);replace HR344_3:=aQ (Kd.C_below (nC HR344_3.out) hb);have BK345:=aQ (hbox);have GW345:=aQ (gB:w.heap.size ≤ gb345);have GE345:=GW345;replace HB:=aQ (below_step bB hb);have NB317_345:=aQ ((by rw [hg];exact Nat.ne_of_lt (blk_lt (nB BK317.out)):gb317 ≠ gb345));have NB345_317:=aQ NB317_345.out.symm;replace BK317:=aQ (blk_below (nB BK317.out) hb);clear hb hbox hg;have hnb42:=NB345_317.out;have hnc42:=NB317_345.out;have hcz43_0:w41.cell? ⟨gb345,0,none⟩ = some (.int .i64 0):=(blk_cell BK345.out 0).trans rfl;have hcz43_1:w41.cell? ⟨gb345,1,none⟩ = some (.int .i64 0):=(blk_cell BK345.out 1).trans rfl;have hcz43_2:w41.cell? ⟨gb345,2,none⟩ = some (.int .i64 0):=(blk_cell BK345.out 2).trans rfl;have hcz43_3:w41.cell? ⟨gb345,3,none⟩ = some (.slice none 0 0):=(blk_cell BK345.out 3).trans rfl;have hfz43_0:=blk_frozen BK345.out 0;have hfz43_1:=blk_frozen BK345.out 1;have hfz43_2:=blk_frozen BK345.out 2;have hfz43_3:=blk_frozen BK345.out 3))
    have n0_:Aside0 (Kd.N k44 44 ((((w41.setCell ⟨gb345,0,none⟩ (.int .i64 ((rd_T44 t334 x54_1).f0))).setCell ⟨gb345,1,none⟩ (.int .i64 ((rd_T44 t334 x54_1).f1.f0))).setCell ⟨gb345,2,none⟩ (.int .i64 ((rd_T44 t334 x54_1).f1.f1))).setCell ⟨gb345,3,none⟩ (.slice A344_3 ((rd_T44 t334 x54_1).f1.f2).length c344_3)) w.heap.size (fun k_=>(P0_2_ k_ ∨ w.heap.size ≤ k_)∧some k_ ≠ (v339:Value).ownBlock∧some k_ ≠ (u5:Value).ownBlock∧k_ ≠ gb317∧k_ ≠ gb345) (.slice (some ad344) t334.length co34) t334):=⟨Kd.N_mono (nFN (g:=gb345) HO_3.out (fun k_ hk=>hk.2)) (fun _ hk=>⟨hk.1.1,⟨hk.1.2.1,⟨hk.1.2.2.1,⟨hk.1.2.2.2,hk.2⟩⟩⟩⟩)⟩
    have n1_:Aside0 (Kd.N k44 44 ((((w41.setCell ⟨gb345,0,none⟩ (.int .i64 ((rd_T44 t334 x54_1).f0))).setCell ⟨gb345,1,none⟩ (.int .i64 ((rd_T44 t334 x54_1).f1.f0))).setCell ⟨gb345,2,none⟩ (.int .i64 ((rd_T44 t334 x54_1).f1.f1))).setCell ⟨gb345,3,none⟩ (.slice A344_3 ((rd_T44 t334 x54_1).f1.f2).length c344_3)) w.heap.size (fun k_=>(P0_2_ k_ ∨ w.heap.size ≤ k_)∧some k_ ≠ (.slice (some ad344) t334.length co34:Value).ownBlock∧some k_ ≠ (u5:Value).ownBlock∧some k_ ≠ (.slice (some ad344) t334.length co34:Value).ownBlock∧k_ ≠ gb317∧k_ ≠ gb345) v339 t338):=⟨Kd.N_mono (nFN (g:=gb345) HO_4.out (fun k_ hk=>hk.2)) (fun _ hk=>⟨hk.1.1,⟨hk.1.2.1,⟨hk.1.2.2.1,⟨hk.1.2.2.2.1,⟨hk.1.2.2.2.2,hk.2⟩⟩⟩⟩⟩)⟩
    have n2_:Aside0 (Kd.N k44 44 ((((w41.setCell ⟨gb345,0,none⟩ (.int .i64 ((rd_T44 t334 x54_1).f0))).setCell ⟨gb345,1,none⟩ (.int .i64 ((rd_T44 t334 x54_1).f1.f0))).setCell ⟨gb345,2,none⟩ (.int .i64 ((rd_T44 t334 x54_1).f1.f1))).setCell ⟨gb345,3,none⟩ (.slice A344_3 ((rd_T44 t334 x54_1).f1.f2).length c344_3)) w.heap.size (fun k_=>(P0_2_ k_ ∨ w.heap.size ≤ k_)∧some k_ ≠ (.slice (some ad344) t334.length co34:Value).ownBlock∧k_ ≠ gb317∧k_ ≠ gb345) u5 x5_1):=⟨Kd.N_mono (nFN (g:=gb345) HO_5.out (fun k_ hk=>hk.2)) (fun _ hk=>⟨hk.1.1,⟨hk.1.2.1,⟨hk.1.2.2,hk.2⟩⟩⟩)⟩
    have n3_:Aside0 (Kd.N k44 44 ((((w41.setCell ⟨gb345,0,none⟩ (.int .i64 ((rd_T44 t334 x54_1).f0))).setCell ⟨gb345,1,none⟩ (.int .i64 ((rd_T44 t334 x54_1).f1.f0))).setCell ⟨gb345,2,none⟩ (.int .i64 ((rd_T44 t334 x54_1).f1.f1))).setCell ⟨gb345,3,none⟩ (.slice A344_3 ((rd_T44 t334 x54_1).f1.f2).length c344_3)) w.heap.size (fun k_=>(P0_2_ k_ ∨ w.heap.size ≤ k_)∧some k_ ≠ (v339:Value).ownBlock∧some k_ ≠ (u5:Value).ownBlock∧k_ ≠ gb317∧k_ ≠ gb345) (.slice (some ad344) t334.length co34) t334):=⟨Kd.N_mono (nFN (g:=gb345) HO_52.out (fun k_ hk=>hk.2)) (fun _ hk=>⟨hk.1.1,⟨hk.1.2.1,⟨hk.1.2.2.1,⟨hk.1.2.2.2,hk.2⟩⟩⟩⟩)⟩
    have n4_:Aside0 (Kd.V k29 29 ((((w41.setCell ⟨gb345,0,none⟩ (.int .i64 ((rd_T44 t334 x54_1).f0))).setCell ⟨gb345,1,none⟩ (.int .i64 ((rd_T44 t334 x54_1).f1.f0))).setCell ⟨gb345,2,none⟩ (.int .i64 ((rd_T44 t334 x54_1).f1.f1))).setCell ⟨gb345,3,none⟩ (.slice A344_3 ((rd_T44 t334 x54_1).f1.f2).length c344_3)) w.heap.size (fun k_=>(P0_2_ k_ ∨ w.heap.size ≤ k_)∧some k_ ≠ (.slice (some ad344) t334.length co34:Value).ownBlock∧some k_ ≠ (v339:Value).ownBlock∧some k_ ≠ (u5:Value).ownBlock∧some k_ ≠ (.slice (some ad344) t334.length co34:Value).ownBlock∧k_ ≠ gb317∧k_ ≠ gb345) (.slice (some ad333) l0_2.length c0_2) l0_2):=⟨Kd.V_mono (nFV (g:=gb345) HO_318002.out (fun k_ hk=>hk.2)) (fun _ hk=>⟨hk.1.1,⟨hk.1.2.1,⟨hk.1.2.2.1,⟨hk.1.2.2.2.1,⟨hk.1.2.2.2.2.1,⟨hk.1.2.2.2.2.2,hk.2⟩⟩⟩⟩⟩⟩)⟩
    have n5_:Aside0 (Kd.V k29 29 ((((w41.setCell ⟨gb345,0,none⟩ (.int .i64 ((rd_T44 t334 x54_1).f0))).setCell ⟨gb345,1,none⟩ (.int .i64 ((rd_T44 t334 x54_1).f1.f0))).setCell ⟨gb345,2,none⟩ (.int .i64 ((rd_T44 t334 x54_1).f1.f1))).setCell ⟨gb345,3,none⟩ (.slice A344_3 ((rd_T44 t334 x54_1).f1.f2).length c344_3)) w.heap.size (fun k_=>(P0_2_ k_ ∨ w.heap.size ≤ k_)∧some k_ ≠ (v339:Value).ownBlock∧some k_ ≠ (u5:Value).ownBlock∧some k_ ≠ (.slice (some ad344) t334.length co34:Value).ownBlock∧k_ ≠ gb317∧k_ ≠ gb345) (.slice A344_3 ((rd_T44 t334 x54_1).f1.f2).length c344_3) ((rd_T44 t334 x54_1).f1.f2)):=⟨Kd.V_mono (nFV (g:=gb345) HL344_3.out (fun k_ hk=>hk.2)) (fun _ hk=>⟨hk.1.1.1,⟨hk.1.1.2.1,⟨hk.1.1.2.2.1,⟨hk.1.2,⟨hk.1.1.2.2.2,hk.2⟩⟩⟩⟩⟩)⟩
    have n6_:Aside0 (((((w41.setCell ⟨gb345,0,none⟩ (.int .i64 ((rd_T44 t334 x54_1).f0))).setCell ⟨gb345,1,none⟩ (.int .i64 ((rd_T44 t334 x54_1).f1.f0))).setCell ⟨gb345,2,none⟩ (.int .i64 ((rd_T44 t334 x54_1).f1.f1))).setCell ⟨gb345,3,none⟩ (.slice A344_3 ((rd_T44 t334 x54_1).f1.f2).length c344_3)).heap[gb317]? = some (.cells #[.int .i64 a0_0,.int .i64 a0_1,.slice (some ad333) l0_2.length c0_2] 29 (0,0))):=⟨bF⟩
    have n7_:Aside0 (((((w41.setCell ⟨gb345,0,none⟩ (.int .i64 ((rd_T44 t334 x54_1).f0))).setCell ⟨gb345,1,none⟩ (.int .i64 ((rd_T44 t334 x54_1).f1.f0))).setCell ⟨gb345,2,none⟩ (.int .i64 ((rd_T44 t334 x54_1).f1.f1))).setCell ⟨gb345,3,none⟩ (.slice A344_3 ((rd_T44 t334 x54_1).f1.f2).length c344_3)).heap[gb345]? = some (.cells #[.int .i64 ((rd_T44 t334 x54_1).f0),.int .i64 ((rd_T44 t334 x54_1).f1.f0),.int .i64 ((rd_T44 t334 x54_1).f1.f1),.slice A344_3 ((rd_T44 t334 x54_1).f1.f2).length c344_3] 44 (0,0))):=⟨bP⟩
    have n8_:Aside0 (Below w.heap.size w ((((w41.setCell ⟨gb345,0,none⟩ (.int .i64 ((rd_T44 t334 x54_1).f0))).setCell ⟨gb345,1,none⟩ (.int .i64 ((rd_T44 t334 x54_1).f1.f0))).setCell ⟨gb345,2,none⟩ (.int .i64 ((rd_T44 t334 x54_1).f1.f1))).setCell ⟨gb345,3,none⟩ (.slice A344_3 ((rd_T44 t334 x54_1).f1.f2).length c344_3))):=⟨bB⟩
    (try clear HO_3)
    (try clear HO_4)
    (try clear HO_5)
    (try clear HO_52)
    (try clear HO_318002)
    (try clear HL344_3)
    (try clear BK317)
    (try clear BK345)
    (try clear HB)
    generalize ((((w41.setCell ⟨gb345,0,none⟩ (.int .i64 ((rd_T44 t334 x54_1).f0))).setCell ⟨gb345,1,none⟩ (.int .i64 ((rd_T44 t334 x54_1).f1.f0))).setCell ⟨gb345,2,none⟩ (.int .i64 ((rd_T44 t334 x54_1).f1.f1))).setCell ⟨gb345,3,none⟩ (.slice A344_3 ((rd_T44 t334 x54_1).f1.f2).length c344_3)) = w44 at n0_ n1_ n2_ n3_ n4_ n5_ n6_ n7_ n8_ ⊢
    have HO_3:=n0_
    have HO_4:=n1_
    have HO_5:=n2_
    have HO_52:=n3_
    have HO_318002:=n4_
    have HL344_3:=n5_
    have BK317:=n6_
    have BK345:=n7_
    have HB:=n8_
    clear n0_ n1_ n2_ n3_ n4_ n5_ n6_ n7_ n8_
    replace HO_3:=aQ (Kd.N_drew HO_3.out)
    replace HO_4:=aQ (Kd.N_drew HO_4.out)
    replace HO_5:=aQ (Kd.N_drew HO_5.out)
    replace HO_52:=aQ (Kd.N_drew HO_52.out)
    replace HO_318002:=aQ (Kd.V_drew HO_318002.out)
    replace HL344_3:=aQ (Kd.V_drew HL344_3.out)
    replace BK317:=aQ (blk_drew BK317.out)
    replace BK345:=aQ (blk_drew BK345.out)
    replace HB:=aQ (below_drew1 HB.out)
    have p346:0 ≤ (1:Int):=(by omega)
    have q346:1 < (l0_2.length:Int):=of_decide_eq_true (by first | (with_reducible assumption) | assumption)
    obtain ⟨ad346,A346_2,c346_2,e346,hx346_0,hx346_1,hx346_2,hl346_2,hi346_2⟩:=at_T29 (Kd.V_reads' HO_318002.out).2.2 1 p346 q346
    obtain rfl:ad333 = ad346:=(by injection e346)
    obtain ⟨ce346,hce346,hMe346,hcc346⟩:=Kd.V_get HO_318002.out z29 1 p346 (by first | exact q346 | exact of_decide_eq_true (by first | (with_reducible assumption) | assumption) | (have e_:=(Kd.V_reads' HO_318002.out).1;omega))
    obtain ⟨ua346_2,uc346_2,rfl,ul346_2,ge346_2⟩:=k29_openF hMe346
    have hv346_2:=hcc346 2 _ rfl
    rw [add_field _ _ 2 (by omega)] at hv346_2
    replace hv346_2:=Option.some.inj (hv346_2.symm.trans hx346_2)
    injection hv346_2 with hva_ hvn_ hvc_
    rw [hva_] at ge346_2
    rw [hvc_] at ul346_2
    have HL346_2:=aQ (show Kd.V k29 29 _ w.heap.size _ _ ((rd_T29 l0_2 1).f2) from Kd.V_mk ul346_2 ge346_2)
    clear hva_ hvn_ hvc_ ge346_2 ul346_2
    clear hcc346 hce346
    (try simp only [show (1:Int).toNat = 1 from rfl,Nat.reduceMul,Nat.reduceEqDiff,Go.Addr.add,↓reduceIte] at hx346_0)
    (try simp only [show (1:Int).toNat = 1 from rfl,Nat.reduceMul,Nat.reduceEqDiff,Go.Addr.add,↓reduceIte] at hx346_1)
    (try simp only [show (1:Int).toNat = 1 from rfl,Nat.reduceMul,Nat.reduceEqDiff,Go.Addr.add,↓reduceIte] at hx346_2)
    have qi346:(1 < l0_2.length) = True:=eq_true (by omega)
    (try rw [show ((1:Int)).toNat = 1 from rfl,show 1 * 3 = 3 from rfl] at hx346_0 hx346_1 hx346_2)
    have HR346_2:=aQ hi346_2
    have HC346_2:=aQ hl346_2
    clear hi346_2 hl346_2
    replace p346:=eq_true p346
    replace q346:=eq_true q346
    refine start_ (n:=14) (S:=fun w'=>w'.cell? ⟨gb345,0,none⟩ = some (.int .i64 ((rd_T44 t334 x54_1).f0))∧w'.cell? ⟨gb345,1,none⟩ = some (.int .i64 ((rd_T44 t334 x54_1).f1.f0))∧w'.cell? ⟨gb345,2,none⟩ = some (.int .i64 ((rd_T44 t334 x54_1).f1.f1))∧w'.cell? ⟨gb345,3,none⟩ = some (.slice A344_3 ((rd_T44 t334 x54_1).f1.f2).length c344_3)∧w'.cell? ⟨gb317,0,none⟩ = some (.int .i64 a0_0)∧w'.cell? ⟨gb317,1,none⟩ = some (.int .i64 a0_1)∧w'.cell? ⟨gb317,2,none⟩ = some (.slice (some ad333) l0_2.length c0_2)∧w'.cell? ⟨ad333.block,ad333.off + 3,none⟩ = some (.int .i64 ((rd_T29 l0_2 1).f0))∧w'.cell? ⟨ad333.block,ad333.off + 3 + 1,none⟩ = some (.int .i64 ((rd_T29 l0_2 1).f1))∧w'.cell? ⟨ad333.block,ad333.off + 3 + 2,none⟩ = some (.slice A346_2 ((rd_T29 l0_2 1).f2).length c346_2)) (ds:=[11,12]) (bn 14 0) (by kernel_rfl) rfl rfl ⟨(blk_cell BK345.out 0).trans rfl,(blk_cell BK345.out 1).trans rfl,(blk_cell BK345.out 2).trans rfl,(blk_cell BK345.out 3).trans rfl,(blk_cell BK317.out 0).trans rfl,(blk_cell BK317.out 1).trans rfl,(blk_cell BK317.out 2).trans rfl,hx346_0,hx346_1,hx346_2⟩ (fun hHeld=>?_);refine with_tabW impl_ticksOf.tab12 impl_ticksOf.bits12 (fun HT_ HW_=>?_)
    generalize w44.drew = w45 at HO_3 HO_4 HO_5 HO_52 HO_318002 HL344_3 BK317 BK345 HB HL346_2 HR346_2 hx346_0 hx346_1 hx346_2 hHeld ⊢
    refine pur (i:=0) (N:=some 58) (bn 14 1) ?_
    refine pur (i:=1) (N:=some 59) (bn 14 3) ?_
    refine pur (i:=3) (N:=some 61) (bn 14 11) ?_
    refine pur (i:=5) (N:=some 63) (bn 14 43) ?_
    refine tak (i:=2) (N:=some 60) (bn 14 47) ?_
    refine tak (i:=4) (N:=some 62) (bn 14 63) ?_
    refine tak (i:=6) (N:=some 64) (bn 14 127) ?_
    refine pur (i:=7) (N:=some 65) (bn 14 255) ?_
    refine tak (i:=8) (N:=some 66) (bn 14 511) ?_
    refine one_ (i:=9) (N:=some 67) (bn 14 1023) rfl rfl (one_of HT_.out (by kernel_rfl)) (by decide) (fun K hK=>?_)
    refine goes1 Try.func62 #[.agg #[.int .i64 ((rd_T44 t334 x54_1).f1.f0),.int .i64 ((rd_T44 t334 x54_1).f1.f1),.slice A344_3 ((rd_T44 t334 x54_1).f1.f2).length c344_3],.agg #[.int .i64 ((rd_T29 l0_2 1).f0),.int .i64 ((rd_T29 l0_2 1).f1),.slice A346_2 ((rd_T29 l0_2 1).f2).length c346_2]] ?_
    with_reducible refine (impl_beside.calls ((rd_T44 t334 x54_1).f1.f0) ((rd_T44 t334 x54_1).f1.f1) (fun k_=>((P0_2_ k_ ∨ w.heap.size ≤ k_)∧(some k_ ≠ (v339:Value).ownBlock∧(some k_ ≠ (u5:Value).ownBlock∧(some k_ ≠ (.slice (some ad344) t334.length co34:Value).ownBlock∧(k_ ≠ gb317∧k_ ≠ gb345)))))) _ _ ((rd_T44 t334 x54_1).f1.f2) ((rd_T29 l0_2 1).f0) ((rd_T29 l0_2 1).f1) (fun k_=>((P0_2_ k_ ∨ w.heap.size ≤ k_)∧(some k_ ≠ (.slice (some ad344) t334.length co34:Value).ownBlock∧(some k_ ≠ (v339:Value).ownBlock∧(some k_ ≠ (u5:Value).ownBlock∧(some k_ ≠ (.slice (some ad344) t334.length co34:Value).ownBlock∧(k_ ≠ gb317∧k_ ≠ gb345))))))) _ _ ((rd_T29 l0_2 1).f2) t347 t348 t349 _ ?side1 ?side2 A39.out).mono ?_
    (case side1=>exact HL344_3.out)
    (case side2=>exact HL346_2.out)
    rintro e w46 ⟨v350,rfl,ho0,hb⟩
    have HS7_:=(hb.cell (World.block_lt_of_cell? _ _ (hHeld.2.2.2.2.2.2.2.1))).trans (hHeld.2.2.2.2.2.2.2.1)
    have HS8_:=(hb.cell (World.block_lt_of_cell? _ _ (hHeld.2.2.2.2.2.2.2.2.1))).trans (hHeld.2.2.2.2.2.2.2.2.1)
    have HS9_:=(hb.cell (World.block_lt_of_cell? _ _ (hHeld.2.2.2.2.2.2.2.2.2))).trans (hHeld.2.2.2.2.2.2.2.2.2)
    refine ⟨_,rfl,?_⟩
    replace HO_3:=aQ (Kd.N_elder' (nN HO_3.out) (Kd.N_base ho0) hb)
    replace HO_318002:=aQ (Kd.V_elder' (nV HO_318002.out) (Kd.N_base ho0) hb)
    replace HL344_3:=aQ (Kd.V_elder' (nV HL344_3.out) (Kd.N_base ho0) hb)
    replace HL346_2:=aQ (Kd.V_elder' (nV HL346_2.out) (Kd.N_base ho0) hb)
    have HO351:=aQ (Kd.N_lower (Kd.N_mono (ok':=fun k_=>(P0_2_ k_ ∨ w.heap.size ≤ k_)∧some k_ ≠ (v339:Value).ownBlock∧some k_ ≠ (u5:Value).ownBlock∧some k_ ≠ (.slice (some ad344) t334.length co34:Value).ownBlock∧k_ ≠ gb317∧k_ ≠ gb345) ho0 (fun k_ hk_=>⟨Or.elim hk_ (fun hs_=>Or.elim hs_ (fun hs_=>hs_.1) (fun hs_=>hs_.1)) (fun hn_=>(.inr (Nat.le_trans (below_size bB) hn_))),Or.elim hk_ (fun hs_=>Or.elim hs_ (fun hs_=>hs_.2.1) (fun hs_=>hs_.2.2.1)) (fun hn_=>(Kd.fresh' (Kd.N_lt (nN HO_4.out)) k_ hn_)),Or.elim hk_ (fun hs_=>Or.elim hs_ (fun hs_=>hs_.2.2.1) (fun hs_=>hs_.2.2.2.1)) (fun hn_=>(Kd.fresh' (Kd.N_lt (nN HO_5.out)) k_ hn_)),Or.elim hk_ (fun hs_=>Or.elim hs_ (fun hs_=>hs_.2.2.2.1) (fun hs_=>hs_.2.2.2.2.1)) (fun hn_=>(Kd.fresh' (Kd.N_lt (nN HO_52.out)) k_ hn_)),Or.elim hk_ (fun hs_=>Or.elim hs_ (fun hs_=>hs_.2.2.2.2.1) (fun hs_=>hs_.2.2.2.2.2.1)) (fun hn_=>(Kd.freshB (nB BK317.out) k_ hn_)),Or.elim hk_ (fun hs_=>Or.elim hs_ (fun hs_=>hs_.2.2.2.2.2) (fun hs_=>hs_.2.2.2.2.2.2)) (fun hn_=>(Kd.freshB (nB BK345.out) k_ hn_))⟩)) (below_size bB))
    replace HO_4:=aQ (Kd.N_elder' (nN HO_4.out) (Kd.N_base ho0) hb)
    replace HO_5:=aQ (Kd.N_elder' (nN HO_5.out) (Kd.N_base ho0) hb)
    replace HO_52:=aQ (Kd.N_elder' (nN HO_52.out) (Kd.N_base ho0) hb)
    replace BK317:=aQ (blk_below (nB BK317.out) hb)
    replace BK345:=aQ (blk_below (nB BK345.out) hb)
    replace HR346_2:=aQ (Kd.C_below (nC HR346_2.out) hb)
    replace HB:=aQ (below_step bB hb)
    (try clear hb)
    (try clear ho0)
    obtain ⟨Ao47,co47,eo47⟩:=Kd.N_slice HO351.out
    (first | subst eo47 | (injection eo47 with f1_ f2_ f3_;have f4_:=f1_.symm;have f5_:=f3_.symm;clear f1_ f2_ f3_;subst f4_;subst f5_))
    refine hK.out _ _ ⟨(blk_cell BK345.out 0).trans rfl,(blk_cell BK345.out 1).trans rfl,(blk_cell BK345.out 2).trans rfl,(blk_cell BK345.out 3).trans rfl,(blk_cell BK317.out 0).trans rfl,(blk_cell BK317.out 1).trans rfl,(blk_cell BK317.out 2).trans rfl,HS7_,HS8_,HS9_⟩ (fun hHeld=>?_)
    clear hK K
    refine nrm (N:=some 67) ?_
    refine pur (i:=10) (N:=some 68) (bn 14 2047) ?_
    refine last_ (i:=11) (N:=some 69) (bn 14 4095) rfl rfl (one_of HT_.out (by kernel_rfl)) (by decide) (fun K hK=>?_)
    refine value_ (w1:=?_) (v:=?_) (by rfl) rfl ?_ ?_
    rotate_left 2
    ·go_simp
     constructor
     ·rfl
     ·rfl
    refine hK.out _ _ ?_
    clear hK K
    refine nrm (N:=some 69) ?_
    refine last_ (i:=12) (N:=some 70) (bn 14 8191) rfl rfl (one_of HT_.out (by kernel_rfl)) (by decide) (fun K hK=>?_)
    refine Kd.N_append_step k44 (w0:=w) w.heap.size (by rfl) (.tmp 58) (.tmp 69) 35 44 (.agg #[(.int .i64 0),(.int .i64 0),(.int .i64 0),(.slice none 0 0)]) 48 rfl Try.underlying35 info44 rfl (by decide) (by omega) u5 x5_1 (⟨(rd_T44 t334 x54_1).f0,(⟨t347,t348,t349⟩:S29)⟩:S44) [.int .i64 ((rd_T44 t334 x54_1).f0),.int .i64 t347,.int .i64 t348,.slice Ao47 t349.length co47] (fun k_=>(P0_2_ k_ ∨ w.heap.size ≤ k_)∧some k_ ≠ (.slice (some ad344) t334.length co34:Value).ownBlock∧k_ ≠ gb317∧k_ ≠ gb345) (fun k_=>((fun k_=>(P0_2_ k_ ∨ w.heap.size ≤ k_)∧some k_ ≠ (.slice (some ad344) t334.length co34:Value).ownBlock∧k_ ≠ gb317∧k_ ≠ gb345)) k_∧some k_ ≠ (u5:Value).ownBlock) rfl rfl ?aP (fun _ hk=>hk) ?aF ?aO ?aB ?aS ?aL ?_
    (case aP=>exact (k44_mkF _ _ (⟨(rd_T44 t334 x54_1).f0,(⟨t347,t348,t349⟩:S29)⟩:S44) (Kd.N_reads' (Kd.N_mono (ok':=(fun k_=>((fun k_=>(P0_2_ k_ ∨ w.heap.size ≤ k_)∧some k_ ≠ (.slice (some ad344) t334.length co34:Value).ownBlock∧k_ ≠ gb317∧k_ ≠ gb345)) k_∧some k_ ≠ (u5:Value).ownBlock)) (HO351.out) (fun k_ hk=>⟨⟨hk.1,⟨hk.2.2.2.1,⟨hk.2.2.2.2.1,hk.2.2.2.2.2⟩⟩⟩,hk.2.2.1⟩))).2.1 (Kd.N_F (Kd.N_mono (ok':=(fun k_=>((fun k_=>(P0_2_ k_ ∨ w.heap.size ≤ k_)∧some k_ ≠ (.slice (some ad344) t334.length co34:Value).ownBlock∧k_ ≠ gb317∧k_ ≠ gb345)) k_∧some k_ ≠ (u5:Value).ownBlock)) (HO351.out) (fun k_ hk=>⟨⟨hk.1,⟨hk.2.2.2.1,⟨hk.2.2.2.2.1,hk.2.2.2.2.2⟩⟩⟩,hk.2.2.1⟩)))))
    (case aB=>exact bB)
    (case aF=>exact (fun k_ hk=>⟨(.inr (Nat.le_trans (below_size bB) hk)),Kd.fresh' (Kd.N_lt (nN HO_52.out)) k_ hk,Kd.freshB (nB BK317.out) k_ hk,Kd.freshB (nB BK345.out) k_ hk⟩))
    (case aO=>exact (nN (Kd.N_mono HO_5.out (fun _ hk=>⟨hk.1.1,⟨hk.1.2.1,⟨hk.1.2.2.1,hk.1.2.2.2⟩⟩⟩))))
    (case aS=>exact (below_size bB))
    (case aL=>have:=LMc40.out;omega)
    intro v353 w48 ho hb hg hat
    rw [← Ny352.out] at ho
    have n0_:=aQ (Kd.N_afterv (ok:=(fun k_=>(P0_2_ k_ ∨ w.heap.size ≤ k_)∧some k_ ≠ (v339:Value).ownBlock∧some k_ ≠ (.slice Ao47 t349.length co47:Value).ownBlock∧k_ ≠ gb317∧k_ ≠ gb345)) (nN (Kd.N_mono HO_3.out (fun _ hk=>⟨⟨hk.1.1,⟨hk.1.2.1,⟨hk.2,⟨hk.1.2.2.2.1,hk.1.2.2.2.2⟩⟩⟩⟩,hk.1.2.2.1⟩))) hg hat)
    have n1_:=aQ (Kd.N_afterv (ok:=(fun k_=>(P0_2_ k_ ∨ w.heap.size ≤ k_)∧some k_ ≠ (.slice (some ad344) t334.length co34:Value).ownBlock∧some k_ ≠ (.slice (some ad344) t334.length co34:Value).ownBlock∧some k_ ≠ (.slice Ao47 t349.length co47:Value).ownBlock∧k_ ≠ gb317∧k_ ≠ gb345)) (nN (Kd.N_mono HO_4.out (fun _ hk=>⟨⟨hk.1.1,⟨hk.1.2.1,⟨hk.1.2.2.2.1,⟨hk.2,⟨hk.1.2.2.2.2.1,hk.1.2.2.2.2.2⟩⟩⟩⟩⟩,hk.1.2.2.1⟩))) hg hat)
    have n2_:=aQ (Kd.N_afterv (ok:=(fun k_=>(P0_2_ k_ ∨ w.heap.size ≤ k_)∧some k_ ≠ (v339:Value).ownBlock∧some k_ ≠ (.slice Ao47 t349.length co47:Value).ownBlock∧k_ ≠ gb317∧k_ ≠ gb345)) (nN (Kd.N_mono HO_52.out (fun _ hk=>⟨⟨hk.1.1,⟨hk.1.2.1,⟨hk.2,⟨hk.1.2.2.2.1,hk.1.2.2.2.2⟩⟩⟩⟩,hk.1.2.2.1⟩))) hg hat)
    have n3_:=aQ (Kd.V_afterv (ok:=(fun k_=>(P0_2_ k_ ∨ w.heap.size ≤ k_)∧some k_ ≠ (.slice (some ad344) t334.length co34:Value).ownBlock∧some k_ ≠ (v339:Value).ownBlock∧some k_ ≠ (.slice (some ad344) t334.length co34:Value).ownBlock∧some k_ ≠ (.slice Ao47 t349.length co47:Value).ownBlock∧k_ ≠ gb317∧k_ ≠ gb345)) (nV (Kd.V_mono HO_318002.out (fun _ hk=>⟨⟨hk.1.1,⟨hk.1.2.1,⟨hk.1.2.2.1,⟨hk.1.2.2.2.2.1,⟨hk.2,⟨hk.1.2.2.2.2.2.1,hk.1.2.2.2.2.2.2⟩⟩⟩⟩⟩⟩,hk.1.2.2.2.1⟩))) hg hat)
    have n4_:=aQ (blk_grown (nB BK317.out) hg (Kd.N_ne HO_5.out BK317.out (by decide)))
    have n5_:=aQ (Kd.V_afterv (ok:=(fun k_=>(P0_2_ k_ ∨ w.heap.size ≤ k_)∧some k_ ≠ (v339:Value).ownBlock∧some k_ ≠ (.slice (some ad344) t334.length co34:Value).ownBlock∧some k_ ≠ (.slice Ao47 t349.length co47:Value).ownBlock∧k_ ≠ gb317∧k_ ≠ gb345)) (nV (Kd.V_mono HL344_3.out (fun _ hk=>⟨⟨hk.1.1,⟨hk.1.2.1,⟨hk.1.2.2.2.1,⟨hk.2,⟨hk.1.2.2.2.2.1,hk.1.2.2.2.2.2⟩⟩⟩⟩⟩,hk.1.2.2.1⟩))) hg hat)
    have n6_:=aQ (blk_grown (nB BK345.out) hg (Kd.N_away HO_5.out (fun _ hk=>hk.1.2.2.2)))
    have n7_:=aQ (Kd.V_afterv (ok:=(fun k_=>(P0_2_ k_ ∨ w.heap.size ≤ k_)∧some k_ ≠ (.slice (some ad344) t334.length co34:Value).ownBlock∧some k_ ≠ (v339:Value).ownBlock∧some k_ ≠ (.slice (some ad344) t334.length co34:Value).ownBlock∧some k_ ≠ (.slice Ao47 t349.length co47:Value).ownBlock∧k_ ≠ gb317∧k_ ≠ gb345)) (nV (Kd.V_mono HL346_2.out (fun _ hk=>⟨⟨hk.1.1,⟨hk.1.2.1,⟨hk.1.2.2.1,⟨hk.1.2.2.2.2.1,⟨hk.2,⟨hk.1.2.2.2.2.2.1,hk.1.2.2.2.2.2.2⟩⟩⟩⟩⟩⟩,hk.1.2.2.2.1⟩))) hg hat)
    have n8_:=aQ (hb)
    have n9_:=aQ (ho)
    clear HO_3 HO_4 HO_52 HO_318002 BK317 HL344_3 BK345 HL346_2 HB HO_5 HO351
    have HO_3:=n0_
    have HO_4:=n1_
    have HO_52:=n2_
    have HO_318002:=n3_
    have BK317:=n4_
    have HL344_3:=n5_
    have BK345:=n6_
    have HL346_2:=n7_
    have HB:=n8_
    have HO354:=n9_
    clear n0_ n1_ n2_ n3_ n4_ n5_ n6_ n7_ n8_ n9_
    clear ho hb hg hat
    refine hK.out _ _ ?_
    clear hK K
    refine nrm (N:=some 70) ?_
    refine pur (i:=13) (N:=some 5) (bn 14 16383) ?_
    refine done_ (done_of HT_.out (by kernel_rfl)) ?_
    try go_wp2
    go_roundg k1
    case measure=>have:=HK1.out;omega
    case rel=>exact ⟨(y352),(wrap64 (x54_1 + 1)),rfl,H',⟨by have:=HK1.out;omega⟩,⟨nN (Kd.N_mono HO_3.out (fun _ hk=>⟨hk.1.1,⟨hk.1.2.1,⟨hk.2,hk.1.2.2.2.1⟩⟩⟩))⟩,⟨nN (Kd.N_mono HO_4.out (fun _ hk=>⟨hk.1.1,⟨hk.1.2.1,⟨hk.2,⟨hk.1.2.2.1,hk.1.2.2.2.2.1⟩⟩⟩⟩))⟩,⟨nN (Kd.N_mono HO354.out (fun _ hk=>⟨hk.1,⟨hk.2.1,hk.2.2.1⟩⟩))⟩,⟨nN (Kd.N_mono HO_52.out (fun _ hk=>⟨hk.1.1,⟨hk.1.2.1,⟨hk.2,hk.1.2.2.2.1⟩⟩⟩))⟩,⟨nV (Kd.V_mono HO_318002.out (fun _ hk=>⟨hk.1.1,⟨hk.1.2.1,⟨hk.1.2.2.1,⟨hk.2,⟨hk.1.2.2.2.1,hk.1.2.2.2.2.2.1⟩⟩⟩⟩⟩))⟩,⟨nB BK317.out⟩,⟨bB⟩⟩
   rw [if_neg c35] at H
   have c35b0:decide (x54_1 < (t334.length:Int)) = false:=decide_eq_false c35
   clear c35
   have H':=aQ H
   clear H
   obtain ⟨Ao49,co49,eo49⟩:=Kd.N_slice HO_4.out
   subst eo49
   go_wp2
   go_loopg [5,74] k1 (fun kq v5 v74 w'=>∃ (x5_2:List (S44)) (x74_2:Int),v74 = .int .i64 x74_2∧Aside0 (impl_ticksOf.l1 kq t334 t338 x5_2 t338 (t338.length:Int) x74_2 a0_0 a0_1 l0_2 = some r)∧Aside0 (kq ≤ k1)∧Aside0 (Kd.N k44 44 w' w.heap.size (fun k_=>(P0_2_ k_ ∨ w.heap.size ≤ k_)∧some k_ ≠ ((.slice Ao49 t338.length co49):Value).ownBlock∧some k_ ≠ (v5:Value).ownBlock∧some k_ ≠ ((.slice Ao49 t338.length co49):Value).ownBlock∧k_ ≠ gb317) (.slice Ao34 t334.length co34) t334)∧Aside0 (Kd.N k44 44 w' w.heap.size (fun k_=>(P0_2_ k_ ∨ w.heap.size ≤ k_)∧some k_ ≠ ((.slice Ao34 t334.length co34):Value).ownBlock∧some k_ ≠ (v5:Value).ownBlock∧k_ ≠ gb317) (.slice Ao49 t338.length co49) t338)∧Aside0 (Kd.N k44 44 w' w.heap.size (fun k_=>(P0_2_ k_ ∨ w.heap.size ≤ k_)∧k_ ≠ gb317) v5 x5_2)∧Aside0 (Kd.N k44 44 w' w.heap.size (fun k_=>(P0_2_ k_ ∨ w.heap.size ≤ k_)∧some k_ ≠ ((.slice Ao34 t334.length co34):Value).ownBlock∧some k_ ≠ (v5:Value).ownBlock∧k_ ≠ gb317) (.slice Ao49 t338.length co49) t338)∧Aside0 (Kd.V k29 29 w' w.heap.size (fun k_=>(P0_2_ k_ ∨ w.heap.size ≤ k_)∧some k_ ≠ ((.slice Ao34 t334.length co34):Value).ownBlock∧some k_ ≠ ((.slice Ao49 t338.length co49):Value).ownBlock∧some k_ ≠ (v5:Value).ownBlock∧some k_ ≠ ((.slice Ao49 t338.length co49):Value).ownBlock∧k_ ≠ gb317) (.slice (some ad333) l0_2.length c0_2) l0_2)∧Aside0 (w'.heap[gb317]? = some (.cells #[.int .i64 a0_0,.int .i64 a0_1,(.slice (some ad333) l0_2.length c0_2)] 29 (0,0)))∧Aside0 (Below w.heap.size w w'))
   case atStart=>exact ⟨(x5_1),(0),rfl,H',⟨Nat.le_refl _⟩,⟨nN (Kd.N_mono HO_3.out (fun _ hk=>⟨hk.1,⟨hk.2.1,⟨hk.2.2.1,⟨hk.2.1,hk.2.2.2⟩⟩⟩⟩))⟩,⟨nN (Kd.N_mono HO_4.out (fun _ hk=>⟨hk.1,⟨hk.2.1,⟨hk.2.2.1,hk.2.2.2.2⟩⟩⟩))⟩,⟨nN (Kd.N_mono HO_5.out (fun _ hk=>⟨hk.1,hk.2.2⟩))⟩,⟨nN (Kd.N_mono HO_4.out (fun _ hk=>⟨hk.1,⟨hk.2.1,⟨hk.2.2.1,hk.2.2.2.2⟩⟩⟩))⟩,⟨nV (Kd.V_mono HO_318002.out (fun _ hk=>⟨hk.1,⟨hk.2.1,⟨hk.2.2.1,⟨hk.2.2.2.1,⟨hk.2.2.1,hk.2.2.2.2.2⟩⟩⟩⟩⟩))⟩,⟨nB BK317.out⟩,⟨bB⟩⟩
   case round =>
    clear H'
    try clear c35b0
    repeat (first | clear HO_3 | clear HO_4 | clear HO_5 | clear HO_72 | clear HO_318002 | clear BK317 | clear HB)
    obtain ⟨x5_2,x74_2,rfl,HA,HK2,HO_3,HO_4,HO_5,HO_72,HO_318002,BK317,HB⟩:=hrel
    cases gk with
    | zero=>exact absurd HA.out (by simp [impl_ticksOf.l1])
    | succ k2 =>
     have H:=HA.out
     clear HA
     simp only [impl_ticksOf.l1] at H
     by_cases c50:x74_2 < (t338.length:Int)
     ·rw [if_pos c50] at H
      have c50b0:decide (x74_2 < (t338.length:Int)) = true:=decide_eq_true c50
      clear c50
      by_cases c51:0 ≤ x74_2;rotate_left
      ·rw [if_neg c51] at H
       exact absurd H (by simp)
      rw [if_pos c51] at H
      have c51b0:decide (0 ≤ x74_2) = true:=decide_eq_true c51
      clear c51
      by_cases c52:x74_2 < (t338.length:Int);rotate_left
      ·rw [if_neg c52] at H
       exact absurd H (by simp)
      rw [if_pos c52] at H
      have c52b0:decide (x74_2 < (t338.length:Int)) = true:=decide_eq_true c52
      clear c52
      by_cases c53:0 < (l0_2.length:Int);rotate_left
      ·rw [if_neg c53] at H
       exact absurd H (by simp)
      rw [if_pos c53] at H
      have c53b0:decide (0 < (l0_2.length:Int)) = true:=decide_eq_true c53
      have c53b1:decide (0 < l0_2.length) = true:=decide_eq_true (by omega)
      clear c53
      obtain ⟨⟨t358,t359,t360⟩,A54,H⟩:=bQ H
      dsimp only at H
      by_cases c55:x5_2.length < 2932031007402;rotate_left
      ·rw [if_neg c55] at H
       exact absurd H (by simp)
      rw [if_pos c55] at H
      have LMc55:=aQ c55
      clear c55
      obtain ⟨y363,hy363⟩:∃ y_:List (S44),y_ = (x5_2 ++ [(⟨(rd_T44 t338 x74_2).f0,(⟨t358,t359,t360⟩:S29)⟩:S44)]):=⟨_,rfl⟩
      replace H:(impl_ticksOf.l1 k2 t334 t338 y363 t338 (t338.length:Int) (wrap64 (x74_2 + 1)) a0_0 a0_1 l0_2) = some r:=by rw [hy363];exact H
      have Ny363:=aQ hy363
      clear hy363
      have H':=aQ H
      clear H
      have p355:0 ≤ (x74_2:Int):=of_decide_eq_true (by first | (with_reducible assumption) | assumption)
      have q355:x74_2 < (t338.length:Int):=of_decide_eq_true (by first | (with_reducible assumption) | assumption)
      obtain ⟨ad355,A355_3,c355_3,e355,hx355_0,hx355_1,hx355_2,hx355_3,hl355_3,hi355_3⟩:=at_T44 (Kd.N_reads' HO_72.out).2.2 x74_2 p355 q355
      cases e355
      obtain ⟨ce355,hce355,hMe355,hcc355⟩:=Kd.N_get HO_72.out z44 x74_2 p355 (by first | exact q355 | exact of_decide_eq_true (by first | (with_reducible assumption) | assumption) | (have e_:=(Kd.N_reads' HO_72.out).1;omega))
      obtain ⟨ua355_3,uc355_3,rfl,ul355_3,ge355_3⟩:=k44_openF hMe355
      have hv355_3:=hcc355 3 _ rfl
      rw [add_field _ _ 3 (by omega)] at hv355_3
      replace hv355_3:=Option.some.inj (hv355_3.symm.trans hx355_3)
      injection hv355_3 with hva_ hvn_ hvc_
      rw [hva_] at ge355_3
      rw [hvc_] at ul355_3
      have HL355_3:=aQ (show Kd.V k29 29 _ w.heap.size _ _ ((rd_T44 t338 x74_2).f1.f2) from Kd.V_mk ul355_3 ge355_3)
      clear hva_ hvn_ hvc_ ge355_3 ul355_3
      clear hcc355 hce355
      have HR355_3:=aQ hi355_3
      have HC355_3:=aQ hl355_3
      clear hi355_3 hl355_3
      replace p355:=eq_true p355
      replace q355:=eq_true q355
      try go_wp2_with (first | ((with_reducible refine gate_dst (N:=9) rfl ?_);refine box1 (N:=9) (cs:=#[.int .i64 0,.int .i64 0,.int .i64 0,.slice none 0 0]) (t:=44) ?_;intro gb356 hg w56 hbox hb;replace HO_3:=aQ (Kd.N_below (Kd.N_elderB (nN HO_3.out) gb356 (Nat.le_of_eq hg.symm)) hb);replace HO_4:=aQ (Kd.N_below (Kd.N_elderB (nN HO_4.out) gb356 (Nat.le_of_eq hg.symm)) hb);replace HO_5:=aQ (Kd.N_below (Kd.N_elderB (nN HO_5.out) gb356 (Nat.le_of_eq hg.symm)) hb);replace HO_72:=aQ (Kd.N_below (Kd.N_elderB (nN HO_72.out) gb356 (Nat.le_of_eq hg.symm)) hb);replace HO_318002:=aQ (Kd.V_below (Kd.V_elderB (nV HO_318002.out) gb356 (Nat.le_of_eq hg.symm)) hb);replace HL355_3:=aQ (Kd.V_below (Kd.V_elderB (nV HL355_3.out) gb356 (Nat.le_of_eq hg.symm)) hb);replace HR355_3:=aQ (Kd.C_below (nC HR355_3.out) hb);have BK356:=aQ (hbox);have GW356:=aQ (gB:w.heap.size ≤ gb356);have GE356:=GW356;replace HB:=aQ (below_step bB hb);have NB317_356:=aQ ((by rw [hg];exact Nat.ne_of_lt (blk_lt (nB BK317.out)):gb317 ≠ gb356));have NB356_317:=aQ NB317_356.out.symm;replace BK317:=aQ (blk_below (nB BK317.out) hb);clear hb hbox hg;have hnb57:=NB356_317.out;have hnc57:=NB317_356.out;have hcz58_0:w56.cell? ⟨gb356,0,none⟩ = some (.int .i64 0):=(blk_cell BK356.out 0).trans rfl;have hcz58_1:w56.cell? ⟨gb356,1,none⟩ = some (.int .i64 0):=(blk_cell BK356.out 1).trans rfl;have hcz58_2:w56.cell? ⟨gb356,2,none⟩ = some (.int .i64 0):=(blk_cell BK356.out 2).trans rfl;have hcz58_3:w56.cell? ⟨gb356,3,none⟩ = some (.slice none 0 0):=(blk_cell BK356.out 3).trans rfl;have hfz58_0:=blk_frozen BK356.out 0;have hfz58_1:=blk_frozen BK356.out 1;have hfz58_2:=blk_frozen BK356.out 2;have hfz58_3:=blk_frozen BK356.out 3))
      have n0_:Aside0 (Kd.N k44 44 ((((w56.setCell ⟨gb356,0,none⟩ (.int .i64 ((rd_T44 t338 x74_2).f0))).setCell ⟨gb356,1,none⟩ (.int .i64 ((rd_T44 t338 x74_2).f1.f0))).setCell ⟨gb356,2,none⟩ (.int .i64 ((rd_T44 t338 x74_2).f1.f1))).setCell ⟨gb356,3,none⟩ (.slice A355_3 ((rd_T44 t338 x74_2).f1.f2).length c355_3)) w.heap.size (fun k_=>(P0_2_ k_ ∨ w.heap.size ≤ k_)∧some k_ ≠ (.slice (some ad355) t338.length co49:Value).ownBlock∧some k_ ≠ (u5:Value).ownBlock∧some k_ ≠ (.slice (some ad355) t338.length co49:Value).ownBlock∧k_ ≠ gb317∧k_ ≠ gb356) (.slice Ao34 t334.length co34) t334):=⟨Kd.N_mono (nFN (g:=gb356) HO_3.out (fun k_ hk=>hk.2)) (fun _ hk=>⟨hk.1.1,⟨hk.1.2.1,⟨hk.1.2.2.1,⟨hk.1.2.2.2.1,⟨hk.1.2.2.2.2,hk.2⟩⟩⟩⟩⟩)⟩
      have n1_:Aside0 (Kd.N k44 44 ((((w56.setCell ⟨gb356,0,none⟩ (.int .i64 ((rd_T44 t338 x74_2).f0))).setCell ⟨gb356,1,none⟩ (.int .i64 ((rd_T44 t338 x74_2).f1.f0))).setCell ⟨gb356,2,none⟩ (.int .i64 ((rd_T44 t338 x74_2).f1.f1))).setCell ⟨gb356,3,none⟩ (.slice A355_3 ((rd_T44 t338 x74_2).f1.f2).length c355_3)) w.heap.size (fun k_=>(P0_2_ k_ ∨ w.heap.size ≤ k_)∧some k_ ≠ (.slice Ao34 t334.length co34:Value).ownBlock∧some k_ ≠ (u5:Value).ownBlock∧k_ ≠ gb317∧k_ ≠ gb356) (.slice (some ad355) t338.length co49) t338):=⟨Kd.N_mono (nFN (g:=gb356) HO_4.out (fun k_ hk=>hk.2)) (fun _ hk=>⟨hk.1.1,⟨hk.1.2.1,⟨hk.1.2.2.1,⟨hk.1.2.2.2,hk.2⟩⟩⟩⟩)⟩
      have n2_:Aside0 (Kd.N k44 44 ((((w56.setCell ⟨gb356,0,none⟩ (.int .i64 ((rd_T44 t338 x74_2).f0))).setCell ⟨gb356,1,none⟩ (.int .i64 ((rd_T44 t338 x74_2).f1.f0))).setCell ⟨gb356,2,none⟩ (.int .i64 ((rd_T44 t338 x74_2).f1.f1))).setCell ⟨gb356,3,none⟩ (.slice A355_3 ((rd_T44 t338 x74_2).f1.f2).length c355_3)) w.heap.size (fun k_=>(P0_2_ k_ ∨ w.heap.size ≤ k_)∧k_ ≠ gb317∧k_ ≠ gb356) u5 x5_2):=⟨Kd.N_mono (nFN (g:=gb356) HO_5.out (fun k_ hk=>hk.2)) (fun _ hk=>⟨hk.1.1,⟨hk.1.2,hk.2⟩⟩)⟩
      have n3_:Aside0 (Kd.N k44 44 ((((w56.setCell ⟨gb356,0,none⟩ (.int .i64 ((rd_T44 t338 x74_2).f0))).setCell ⟨gb356,1,none⟩ (.int .i64 ((rd_T44 t338 x74_2).f1.f0))).setCell ⟨gb356,2,none⟩ (.int .i64 ((rd_T44 t338 x74_2).f1.f1))).setCell ⟨gb356,3,none⟩ (.slice A355_3 ((rd_T44 t338 x74_2).f1.f2).length c355_3)) w.heap.size (fun k_=>(P0_2_ k_ ∨ w.heap.size ≤ k_)∧some k_ ≠ (.slice Ao34 t334.length co34:Value).ownBlock∧some k_ ≠ (u5:Value).ownBlock∧k_ ≠ gb317∧k_ ≠ gb356) (.slice (some ad355) t338.length co49) t338):=⟨Kd.N_mono (nFN (g:=gb356) HO_72.out (fun k_ hk=>hk.2)) (fun _ hk=>⟨hk.1.1,⟨hk.1.2.1,⟨hk.1.2.2.1,⟨hk.1.2.2.2,hk.2⟩⟩⟩⟩)⟩
      have n4_:Aside0 (Kd.V k29 29 ((((w56.setCell ⟨gb356,0,none⟩ (.int .i64 ((rd_T44 t338 x74_2).f0))).setCell ⟨gb356,1,none⟩ (.int .i64 ((rd_T44 t338 x74_2).f1.f0))).setCell ⟨gb356,2,none⟩ (.int .i64 ((rd_T44 t338 x74_2).f1.f1))).setCell ⟨gb356,3,none⟩ (.slice A355_3 ((rd_T44 t338 x74_2).f1.f2).length c355_3)) w.heap.size (fun k_=>(P0_2_ k_ ∨ w.heap.size ≤ k_)∧some k_ ≠ (.slice Ao34 t334.length co34:Value).ownBlock∧some k_ ≠ (.slice (some ad355) t338.length co49:Value).ownBlock∧some k_ ≠ (u5:Value).ownBlock∧some k_ ≠ (.slice (some ad355) t338.length co49:Value).ownBlock∧k_ ≠ gb317∧k_ ≠ gb356) (.slice (some ad333) l0_2.length c0_2) l0_2):=⟨Kd.V_mono (nFV (g:=gb356) HO_318002.out (fun k_ hk=>hk.2)) (fun _ hk=>⟨hk.1.1,⟨hk.1.2.1,⟨hk.1.2.2.1,⟨hk.1.2.2.2.1,⟨hk.1.2.2.2.2.1,⟨hk.1.2.2.2.2.2,hk.2⟩⟩⟩⟩⟩⟩)⟩
      have n5_:Aside0 (Kd.V k29 29 ((((w56.setCell ⟨gb356,0,none⟩ (.int .i64 ((rd_T44 t338 x74_2).f0))).setCell ⟨gb356,1,none⟩ (.int .i64 ((rd_T44 t338 x74_2).f1.f0))).setCell ⟨gb356,2,none⟩ (.int .i64 ((rd_T44 t338 x74_2).f1.f1))).setCell ⟨gb356,3,none⟩ (.slice A355_3 ((rd_T44 t338 x74_2).f1.f2).length c355_3)) w.heap.size (fun k_=>(P0_2_ k_ ∨ w.heap.size ≤ k_)∧some k_ ≠ (.slice Ao34 t334.length co34:Value).ownBlock∧some k_ ≠ (u5:Value).ownBlock∧some k_ ≠ (.slice (some ad355) t338.length co49:Value).ownBlock∧k_ ≠ gb317∧k_ ≠ gb356) (.slice A355_3 ((rd_T44 t338 x74_2).f1.f2).length c355_3) ((rd_T44 t338 x74_2).f1.f2)):=⟨Kd.V_mono (nFV (g:=gb356) HL355_3.out (fun k_ hk=>hk.2)) (fun _ hk=>⟨hk.1.1.1,⟨hk.1.1.2.1,⟨hk.1.1.2.2.1,⟨hk.1.2,⟨hk.1.1.2.2.2,hk.2⟩⟩⟩⟩⟩)⟩
      have n6_:Aside0 (((((w56.setCell ⟨gb356,0,none⟩ (.int .i64 ((rd_T44 t338 x74_2).f0))).setCell ⟨gb356,1,none⟩ (.int .i64 ((rd_T44 t338 x74_2).f1.f0))).setCell ⟨gb356,2,none⟩ (.int .i64 ((rd_T44 t338 x74_2).f1.f1))).setCell ⟨gb356,3,none⟩ (.slice A355_3 ((rd_T44 t338 x74_2).f1.f2).length c355_3)).heap[gb317]? = some (.cells #[.int .i64 a0_0,.int .i64 a0_1,.slice (some ad333) l0_2.length c0_2] 29 (0,0))):=⟨bF⟩
      have n7_:Aside0 (((((w56.setCell ⟨gb356,0,none⟩ (.int .i64 ((rd_T44 t338 x74_2).f0))).setCell ⟨gb356,1,none⟩ (.int .i64 ((rd_T44 t338 x74_2).f1.f0))).setCell ⟨gb356,2,none⟩ (.int .i64 ((rd_T44 t338 x74_2).f1.f1))).setCell ⟨gb356,3,none⟩ (.slice A355_3 ((rd_T44 t338 x74_2).f1.f2).length c355_3)).heap[gb356]? = some (.cells #[.int .i64 ((rd_T44 t338 x74_2).f0),.int .i64 ((rd_T44 t338 x74_2).f1.f0),.int .i64 ((rd_T44 t338 x74_2).f1.f1),.slice A355_3 ((rd_T44 t338 x74_2).f1.f2).length c355_3] 44 (0,0))):=⟨bP⟩
      have n8_:Aside0 (Below w.heap.size w ((((w56.setCell ⟨gb356,0,none⟩ (.int .i64 ((rd_T44 t338 x74_2).f0))).setCell ⟨gb356,1,none⟩ (.int .i64 ((rd_T44 t338 x74_2).f1.f0))).setCell ⟨gb356,2,none⟩ (.int .i64 ((rd_T44 t338 x74_2).f1.f1))).setCell ⟨gb356,3,none⟩ (.slice A355_3 ((rd_T44 t338 x74_2).f1.f2).length c355_3))):=⟨bB⟩
      (try clear HO_3)
      (try clear HO_4)
      (try clear HO_5)
      (try clear HO_72)
      (try clear HO_318002)
      (try clear HL355_3)
      (try clear BK317)
      (try clear BK356)
      (try clear HB)
      generalize ((((w56.setCell ⟨gb356,0,none⟩ (.int .i64 ((rd_T44 t338 x74_2).f0))).setCell ⟨gb356,1,none⟩ (.int .i64 ((rd_T44 t338 x74_2).f1.f0))).setCell ⟨gb356,2,none⟩ (.int .i64 ((rd_T44 t338 x74_2).f1.f1))).setCell ⟨gb356,3,none⟩ (.slice A355_3 ((rd_T44 t338 x74_2).f1.f2).length c355_3)) = w59 at n0_ n1_ n2_ n3_ n4_ n5_ n6_ n7_ n8_ ⊢
      have HO_3:=n0_
      have HO_4:=n1_
      have HO_5:=n2_
      have HO_72:=n3_
      have HO_318002:=n4_
      have HL355_3:=n5_
      have BK317:=n6_
      have BK356:=n7_
      have HB:=n8_
      clear n0_ n1_ n2_ n3_ n4_ n5_ n6_ n7_ n8_
      replace HO_3:=aQ (Kd.N_drew HO_3.out)
      replace HO_4:=aQ (Kd.N_drew HO_4.out)
      replace HO_5:=aQ (Kd.N_drew HO_5.out)
      replace HO_72:=aQ (Kd.N_drew HO_72.out)
      replace HO_318002:=aQ (Kd.V_drew HO_318002.out)
      replace HL355_3:=aQ (Kd.V_drew HL355_3.out)
      replace BK317:=aQ (blk_drew BK317.out)
      replace BK356:=aQ (blk_drew BK356.out)
      replace HB:=aQ (below_drew1 HB.out)
      have p357:0 ≤ (0:Int):=(by omega)
      have q357:0 < (l0_2.length:Int):=of_decide_eq_true (by first | (with_reducible assumption) | assumption)
      obtain ⟨ad357,A357_2,c357_2,e357,hx357_0,hx357_1,hx357_2,hl357_2,hi357_2⟩:=at_T29 (Kd.V_reads' HO_318002.out).2.2 0 p357 q357
      obtain rfl:ad333 = ad357:=(by injection e357)
      obtain ⟨ce357,hce357,hMe357,hcc357⟩:=Kd.V_get HO_318002.out z29 0 p357 (by first | exact q357 | exact of_decide_eq_true (by first | (with_reducible assumption) | assumption) | (have e_:=(Kd.V_reads' HO_318002.out).1;omega))
      obtain ⟨ua357_2,uc357_2,rfl,ul357_2,ge357_2⟩:=k29_openF hMe357
      have hv357_2:=hcc357 2 _ rfl
      rw [add_field _ _ 2 (by omega)] at hv357_2
      replace hv357_2:=Option.some.inj (hv357_2.symm.trans hx357_2)
      injection hv357_2 with hva_ hvn_ hvc_
      rw [hva_] at ge357_2
      rw [hvc_] at ul357_2
      have HL357_2:=aQ (show Kd.V k29 29 _ w.heap.size _ _ ((rd_T29 l0_2 0).f2) from Kd.V_mk ul357_2 ge357_2)
      clear hva_ hvn_ hvc_ ge357_2 ul357_2
      clear hcc357 hce357
      have qi357:(0 < l0_2.length) = True:=eq_true (by omega)
      (try rw [show ((0:Int)).toNat = 0 from rfl,show 0 * 3 = 0 from rfl] at hx357_0 hx357_1 hx357_2)
      (try rw [Addr.add_zero'] at hx357_0)
      (try rw [Addr.add_zero'] at hx357_1)
      (try rw [Addr.add_zero'] at hx357_2)
      have HR357_2:=aQ hi357_2
      have HC357_2:=aQ hl357_2
      clear hi357_2 hl357_2
      replace p357:=eq_true p357
      replace q357:=eq_true q357
      refine start_ (n:=14) (S:=fun w'=>w'.cell? ⟨gb356,0,none⟩ = some (.int .i64 ((rd_T44 t338 x74_2).f0))∧w'.cell? ⟨gb356,1,none⟩ = some (.int .i64 ((rd_T44 t338 x74_2).f1.f0))∧w'.cell? ⟨gb356,2,none⟩ = some (.int .i64 ((rd_T44 t338 x74_2).f1.f1))∧w'.cell? ⟨gb356,3,none⟩ = some (.slice A355_3 ((rd_T44 t338 x74_2).f1.f2).length c355_3)∧w'.cell? ⟨gb317,0,none⟩ = some (.int .i64 a0_0)∧w'.cell? ⟨gb317,1,none⟩ = some (.int .i64 a0_1)∧w'.cell? ⟨gb317,2,none⟩ = some (.slice (some ad333) l0_2.length c0_2)∧w'.cell? ad333 = some (.int .i64 ((rd_T29 l0_2 0).f0))∧w'.cell? ⟨ad333.block,ad333.off + 1,none⟩ = some (.int .i64 ((rd_T29 l0_2 0).f1))∧w'.cell? ⟨ad333.block,ad333.off + 2,none⟩ = some (.slice A357_2 ((rd_T29 l0_2 0).f2).length c357_2)) (ds:=[11,12]) (bn 14 0) (by kernel_rfl) rfl rfl ⟨(blk_cell BK356.out 0).trans rfl,(blk_cell BK356.out 1).trans rfl,(blk_cell BK356.out 2).trans rfl,(blk_cell BK356.out 3).trans rfl,(blk_cell BK317.out 0).trans rfl,(blk_cell BK317.out 1).trans rfl,(blk_cell BK317.out 2).trans rfl,hx357_0,hx357_1,hx357_2⟩ (fun hHeld=>?_);refine with_tabW impl_ticksOf.tab17 impl_ticksOf.bits17 (fun HT_ HW_=>?_)
      generalize w59.drew = w60 at HO_3 HO_4 HO_5 HO_72 HO_318002 HL355_3 BK317 BK356 HB HL357_2 HR357_2 hx357_0 hx357_1 hx357_2 hHeld ⊢
      refine pur (i:=0) (N:=some 78) (bn 14 1) ?_
      refine pur (i:=1) (N:=some 79) (bn 14 3) ?_
      refine pur (i:=3) (N:=some 81) (bn 14 11) ?_
      refine pur (i:=7) (N:=some 85) (bn 14 139) ?_
      refine tak (i:=2) (N:=some 80) (bn 14 143) ?_
      refine tak (i:=4) (N:=some 82) (bn 14 159) ?_
      refine pur (i:=5) (N:=some 83) (bn 14 191) ?_
      refine tak (i:=6) (N:=some 84) (bn 14 255) ?_
      refine tak (i:=8) (N:=some 86) (bn 14 511) ?_
      refine one_ (i:=9) (N:=some 87) (bn 14 1023) rfl rfl (one_of HT_.out (by kernel_rfl)) (by decide) (fun K hK=>?_)
      refine goes1 Try.func62 #[.agg #[.int .i64 ((rd_T29 l0_2 0).f0),.int .i64 ((rd_T29 l0_2 0).f1),.slice A357_2 ((rd_T29 l0_2 0).f2).length c357_2],.agg #[.int .i64 ((rd_T44 t338 x74_2).f1.f0),.int .i64 ((rd_T44 t338 x74_2).f1.f1),.slice A355_3 ((rd_T44 t338 x74_2).f1.f2).length c355_3]] ?_
      with_reducible refine (impl_beside.calls ((rd_T29 l0_2 0).f0) ((rd_T29 l0_2 0).f1) (fun k_=>((P0_2_ k_ ∨ w.heap.size ≤ k_)∧(some k_ ≠ (.slice Ao34 t334.length co34:Value).ownBlock∧(some k_ ≠ (.slice (some ad355) t338.length co49:Value).ownBlock∧(some k_ ≠ (u5:Value).ownBlock∧(some k_ ≠ (.slice (some ad355) t338.length co49:Value).ownBlock∧(k_ ≠ gb317∧k_ ≠ gb356))))))) _ _ ((rd_T29 l0_2 0).f2) ((rd_T44 t338 x74_2).f1.f0) ((rd_T44 t338 x74_2).f1.f1) (fun k_=>((P0_2_ k_ ∨ w.heap.size ≤ k_)∧(some k_ ≠ (.slice Ao34 t334.length co34:Value).ownBlock∧(some k_ ≠ (u5:Value).ownBlock∧(some k_ ≠ (.slice (some ad355) t338.length co49:Value).ownBlock∧(k_ ≠ gb317∧k_ ≠ gb356)))))) _ _ ((rd_T44 t338 x74_2).f1.f2) t358 t359 t360 _ ?side1 ?side2 A54.out).mono ?_
      (case side1=>exact HL357_2.out)
      (case side2=>exact HL355_3.out)
      rintro e w61 ⟨v361,rfl,ho0,hb⟩
      have HS7_:=(hb.cell (World.block_lt_of_cell? _ _ (hHeld.2.2.2.2.2.2.2.1))).trans (hHeld.2.2.2.2.2.2.2.1)
      have HS8_:=(hb.cell (World.block_lt_of_cell? _ _ (hHeld.2.2.2.2.2.2.2.2.1))).trans (hHeld.2.2.2.2.2.2.2.2.1)
      have HS9_:=(hb.cell (World.block_lt_of_cell? _ _ (hHeld.2.2.2.2.2.2.2.2.2))).trans (hHeld.2.2.2.2.2.2.2.2.2)
      refine ⟨_,rfl,?_⟩
      replace HO_4:=aQ (Kd.N_elder' (nN HO_4.out) (Kd.N_base ho0) hb)
      replace HO_318002:=aQ (Kd.V_elder' (nV HO_318002.out) (Kd.N_base ho0) hb)
      replace HL355_3:=aQ (Kd.V_elder' (nV HL355_3.out) (Kd.N_base ho0) hb)
      replace HL357_2:=aQ (Kd.V_elder' (nV HL357_2.out) (Kd.N_base ho0) hb)
      have HO362:=aQ (Kd.N_lower (Kd.N_mono (ok':=fun k_=>(P0_2_ k_ ∨ w.heap.size ≤ k_)∧some k_ ≠ (.slice Ao34 t334.length co34:Value).ownBlock∧some k_ ≠ (u5:Value).ownBlock∧some k_ ≠ (.slice (some ad355) t338.length co49:Value).ownBlock∧k_ ≠ gb317∧k_ ≠ gb356) ho0 (fun k_ hk_=>⟨Or.elim hk_ (fun hs_=>Or.elim hs_ (fun hs_=>hs_.1) (fun hs_=>hs_.1)) (fun hn_=>(.inr (Nat.le_trans (below_size bB) hn_))),Or.elim hk_ (fun hs_=>Or.elim hs_ (fun hs_=>hs_.2.1) (fun hs_=>hs_.2.1)) (fun hn_=>(Kd.fresh' (Kd.N_lt (nN HO_3.out)) k_ hn_)),Or.elim hk_ (fun hs_=>Or.elim hs_ (fun hs_=>hs_.2.2.2.1) (fun hs_=>hs_.2.2.1)) (fun hn_=>(Kd.fresh' (Kd.N_lt (nN HO_5.out)) k_ hn_)),Or.elim hk_ (fun hs_=>Or.elim hs_ (fun hs_=>hs_.2.2.2.2.1) (fun hs_=>hs_.2.2.2.1)) (fun hn_=>(Kd.fresh' (Kd.N_lt (nN HO_72.out)) k_ hn_)),Or.elim hk_ (fun hs_=>Or.elim hs_ (fun hs_=>hs_.2.2.2.2.2.1) (fun hs_=>hs_.2.2.2.2.1)) (fun hn_=>(Kd.freshB (nB BK317.out) k_ hn_)),Or.elim hk_ (fun hs_=>Or.elim hs_ (fun hs_=>hs_.2.2.2.2.2.2) (fun hs_=>hs_.2.2.2.2.2)) (fun hn_=>(Kd.freshB (nB BK356.out) k_ hn_))⟩)) (below_size bB))
      replace HO_3:=aQ (Kd.N_elder' (nN HO_3.out) (Kd.N_base ho0) hb)
      replace HO_5:=aQ (Kd.N_elder' (nN HO_5.out) (Kd.N_base ho0) hb)
      replace HO_72:=aQ (Kd.N_elder' (nN HO_72.out) (Kd.N_base ho0) hb)
      replace BK317:=aQ (blk_below (nB BK317.out) hb)
      replace BK356:=aQ (blk_below (nB BK356.out) hb)
      replace HR357_2:=aQ (Kd.C_below (nC HR357_2.out) hb)
      replace HB:=aQ (below_step bB hb)
      (try clear hb)
      (try clear ho0)
      obtain ⟨Ao62,co62,eo62⟩:=Kd.N_slice HO362.out
      (first | subst eo62 | (injection eo62 with f1_ f2_ f3_;have f4_:=f1_.symm;have f5_:=f3_.symm;clear f1_ f2_ f3_;subst f4_;subst f5_))
      refine hK.out _ _ ⟨(blk_cell BK356.out 0).trans rfl,(blk_cell BK356.out 1).trans rfl,(blk_cell BK356.out 2).trans rfl,(blk_cell BK356.out 3).trans rfl,(blk_cell BK317.out 0).trans rfl,(blk_cell BK317.out 1).trans rfl,(blk_cell BK317.out 2).trans rfl,HS7_,HS8_,HS9_⟩ (fun hHeld=>?_)
      clear hK K
      refine nrm (N:=some 87) ?_
      refine pur (i:=10) (N:=some 88) (bn 14 2047) ?_
      refine last_ (i:=11) (N:=some 89) (bn 14 4095) rfl rfl (one_of HT_.out (by kernel_rfl)) (by decide) (fun K hK=>?_)
      refine value_ (w1:=?_) (v:=?_) (by rfl) rfl ?_ ?_
      rotate_left 2
      ·go_simp
       constructor
       ·rfl
       ·rfl
      refine hK.out _ _ ?_
      clear hK K
      refine nrm (N:=some 89) ?_
      refine last_ (i:=12) (N:=some 90) (bn 14 8191) rfl rfl (one_of HT_.out (by kernel_rfl)) (by decide) (fun K hK=>?_)
      refine Kd.N_append_step k44 (w0:=w) w.heap.size (by rfl) (.tmp 78) (.tmp 89) 35 44 (.agg #[(.int .i64 0),(.int .i64 0),(.int .i64 0),(.slice none 0 0)]) 48 rfl Try.underlying35 info44 rfl (by decide) (by omega) u5 x5_2 (⟨(rd_T44 t338 x74_2).f0,(⟨t358,t359,t360⟩:S29)⟩:S44) [.int .i64 ((rd_T44 t338 x74_2).f0),.int .i64 t358,.int .i64 t359,.slice Ao62 t360.length co62] (fun k_=>(P0_2_ k_ ∨ w.heap.size ≤ k_)∧k_ ≠ gb317∧k_ ≠ gb356) (fun k_=>((fun k_=>(P0_2_ k_ ∨ w.heap.size ≤ k_)∧k_ ≠ gb317∧k_ ≠ gb356)) k_∧some k_ ≠ (u5:Value).ownBlock) rfl rfl ?aP (fun _ hk=>hk) ?aF ?aO ?aB ?aS ?aL ?_
      (case aP=>exact (k44_mkF _ _ (⟨(rd_T44 t338 x74_2).f0,(⟨t358,t359,t360⟩:S29)⟩:S44) (Kd.N_reads' (Kd.N_mono (ok':=(fun k_=>((fun k_=>(P0_2_ k_ ∨ w.heap.size ≤ k_)∧k_ ≠ gb317∧k_ ≠ gb356)) k_∧some k_ ≠ (u5:Value).ownBlock)) (HO362.out) (fun k_ hk=>⟨⟨hk.1,⟨hk.2.2.2.2.1,hk.2.2.2.2.2⟩⟩,hk.2.2.1⟩))).2.1 (Kd.N_F (Kd.N_mono (ok':=(fun k_=>((fun k_=>(P0_2_ k_ ∨ w.heap.size ≤ k_)∧k_ ≠ gb317∧k_ ≠ gb356)) k_∧some k_ ≠ (u5:Value).ownBlock)) (HO362.out) (fun k_ hk=>⟨⟨hk.1,⟨hk.2.2.2.2.1,hk.2.2.2.2.2⟩⟩,hk.2.2.1⟩)))))
      (case aB=>exact bB)
      (case aF=>exact (fun k_ hk=>⟨(.inr (Nat.le_trans (below_size bB) hk)),Kd.freshB (nB BK317.out) k_ hk,Kd.freshB (nB BK356.out) k_ hk⟩))
      (case aO=>exact (nN (Kd.N_mono HO_5.out (fun _ hk=>⟨hk.1.1,⟨hk.1.2.1,hk.1.2.2⟩⟩))))
      (case aS=>exact (below_size bB))
      (case aL=>have:=LMc55.out;omega)
      intro v364 w63 ho hb hg hat
      rw [← Ny363.out] at ho
      have n0_:=aQ (Kd.N_afterv (ok:=(fun k_=>(P0_2_ k_ ∨ w.heap.size ≤ k_)∧some k_ ≠ (.slice (some ad355) t338.length co49:Value).ownBlock∧some k_ ≠ (.slice (some ad355) t338.length co49:Value).ownBlock∧some k_ ≠ (.slice Ao62 t360.length co62:Value).ownBlock∧k_ ≠ gb317∧k_ ≠ gb356)) (nN (Kd.N_mono HO_3.out (fun _ hk=>⟨⟨hk.1.1,⟨hk.1.2.1,⟨hk.1.2.2.2.1,⟨hk.2,⟨hk.1.2.2.2.2.1,hk.1.2.2.2.2.2⟩⟩⟩⟩⟩,hk.1.2.2.1⟩))) hg hat)
      have n1_:=aQ (Kd.N_afterv (ok:=(fun k_=>(P0_2_ k_ ∨ w.heap.size ≤ k_)∧some k_ ≠ (.slice Ao34 t334.length co34:Value).ownBlock∧some k_ ≠ (.slice Ao62 t360.length co62:Value).ownBlock∧k_ ≠ gb317∧k_ ≠ gb356)) (nN (Kd.N_mono HO_4.out (fun _ hk=>⟨⟨hk.1.1,⟨hk.1.2.1,⟨hk.2,⟨hk.1.2.2.2.1,hk.1.2.2.2.2⟩⟩⟩⟩,hk.1.2.2.1⟩))) hg hat)
      have n2_:=aQ (Kd.N_afterv (ok:=(fun k_=>(P0_2_ k_ ∨ w.heap.size ≤ k_)∧some k_ ≠ (.slice Ao34 t334.length co34:Value).ownBlock∧some k_ ≠ (.slice Ao62 t360.length co62:Value).ownBlock∧k_ ≠ gb317∧k_ ≠ gb356)) (nN (Kd.N_mono HO_72.out (fun _ hk=>⟨⟨hk.1.1,⟨hk.1.2.1,⟨hk.2,⟨hk.1.2.2.2.1,hk.1.2.2.2.2⟩⟩⟩⟩,hk.1.2.2.1⟩))) hg hat)
      have n3_:=aQ (Kd.V_afterv (ok:=(fun k_=>(P0_2_ k_ ∨ w.heap.size ≤ k_)∧some k_ ≠ (.slice Ao34 t334.length co34:Value).ownBlock∧some k_ ≠ (.slice (some ad355) t338.length co49:Value).ownBlock∧some k_ ≠ (.slice (some ad355) t338.length co49:Value).ownBlock∧some k_ ≠ (.slice Ao62 t360.length co62:Value).ownBlock∧k_ ≠ gb317∧k_ ≠ gb356)) (nV (Kd.V_mono HO_318002.out (fun _ hk=>⟨⟨hk.1.1,⟨hk.1.2.1,⟨hk.1.2.2.1,⟨hk.1.2.2.2.2.1,⟨hk.2,⟨hk.1.2.2.2.2.2.1,hk.1.2.2.2.2.2.2⟩⟩⟩⟩⟩⟩,hk.1.2.2.2.1⟩))) hg hat)
      have n4_:=aQ (blk_grown (nB BK317.out) hg (Kd.N_ne HO_5.out BK317.out (by decide)))
      have n5_:=aQ (Kd.V_afterv (ok:=(fun k_=>(P0_2_ k_ ∨ w.heap.size ≤ k_)∧some k_ ≠ (.slice Ao34 t334.length co34:Value).ownBlock∧some k_ ≠ (.slice (some ad355) t338.length co49:Value).ownBlock∧some k_ ≠ (.slice Ao62 t360.length co62:Value).ownBlock∧k_ ≠ gb317∧k_ ≠ gb356)) (nV (Kd.V_mono HL355_3.out (fun _ hk=>⟨⟨hk.1.1,⟨hk.1.2.1,⟨hk.1.2.2.2.1,⟨hk.2,⟨hk.1.2.2.2.2.1,hk.1.2.2.2.2.2⟩⟩⟩⟩⟩,hk.1.2.2.1⟩))) hg hat)
      have n6_:=aQ (blk_grown (nB BK356.out) hg (Kd.N_away HO_5.out (fun _ hk=>hk.1.2.2)))
      have n7_:=aQ (Kd.V_afterv (ok:=(fun k_=>(P0_2_ k_ ∨ w.heap.size ≤ k_)∧some k_ ≠ (.slice Ao34 t334.length co34:Value).ownBlock∧some k_ ≠ (.slice (some ad355) t338.length co49:Value).ownBlock∧some k_ ≠ (.slice (some ad355) t338.length co49:Value).ownBlock∧some k_ ≠ (.slice Ao62 t360.length co62:Value).ownBlock∧k_ ≠ gb317∧k_ ≠ gb356)) (nV (Kd.V_mono HL357_2.out (fun _ hk=>⟨⟨hk.1.1,⟨hk.1.2.1,⟨hk.1.2.2.1,⟨hk.1.2.2.2.2.1,⟨hk.2,⟨hk.1.2.2.2.2.2.1,hk.1.2.2.2.2.2.2⟩⟩⟩⟩⟩⟩,hk.1.2.2.2.1⟩))) hg hat)
      have n8_:=aQ (hb)
      have n9_:=aQ (ho)
      clear HO_3 HO_4 HO_72 HO_318002 BK317 HL355_3 BK356 HL357_2 HB HO_5 HO362
      have HO_3:=n0_
      have HO_4:=n1_
      have HO_72:=n2_
      have HO_318002:=n3_
      have BK317:=n4_
      have HL355_3:=n5_
      have BK356:=n6_
      have HL357_2:=n7_
      have HB:=n8_
      have HO365:=n9_
      clear n0_ n1_ n2_ n3_ n4_ n5_ n6_ n7_ n8_ n9_
      clear ho hb hg hat
      refine hK.out _ _ ?_
      clear hK K
      refine nrm (N:=some 90) ?_
      refine pur (i:=13) (N:=some 5) (bn 14 16383) ?_
      refine done_ (done_of HT_.out (by kernel_rfl)) ?_
      try go_wp2
      go_roundg k2
      case measure=>have:=HK1.out;have:=HK2.out;omega
      case rel=>exact ⟨(y363),(wrap64 (x74_2 + 1)),rfl,H',⟨by have:=HK1.out;have:=HK2.out;omega⟩,⟨nN (Kd.N_mono HO_3.out (fun _ hk=>⟨hk.1.1,⟨hk.1.2.1,⟨hk.2,⟨hk.1.2.2.1,hk.1.2.2.2.2.1⟩⟩⟩⟩))⟩,⟨nN (Kd.N_mono HO_4.out (fun _ hk=>⟨hk.1.1,⟨hk.1.2.1,⟨hk.2,hk.1.2.2.2.1⟩⟩⟩))⟩,⟨nN (Kd.N_mono HO365.out (fun _ hk=>⟨hk.1,hk.2.1⟩))⟩,⟨nN (Kd.N_mono HO_72.out (fun _ hk=>⟨hk.1.1,⟨hk.1.2.1,⟨hk.2,hk.1.2.2.2.1⟩⟩⟩))⟩,⟨nV (Kd.V_mono HO_318002.out (fun _ hk=>⟨hk.1.1,⟨hk.1.2.1,⟨hk.1.2.2.1,⟨hk.2,⟨hk.1.2.2.2.1,hk.1.2.2.2.2.2.1⟩⟩⟩⟩⟩))⟩,⟨nB BK317.out⟩,⟨bB⟩⟩
     rw [if_neg c50] at H
     have c50b0:decide (x74_2 < (t338.length:Int)) = false:=decide_eq_false c50
     clear c50
     have H':=aQ H
     clear H
     go_wp2
     go_loopg [5,94] k2 (fun kq v5 v94 w'=>∃ (x5_3:List (S44)) (x94_3:Int),v94 = .int .i64 x94_3∧Aside0 (impl_ticksOf.l2 kq t338 x5_3 t334 (t334.length:Int) x94_3 = some r)∧Aside0 (kq ≤ k2)∧Aside0 (Kd.N k44 44 w' w.heap.size (fun k_=>(P0_2_ k_ ∨ w.heap.size ≤ k_)∧some k_ ≠ (v5:Value).ownBlock∧some k_ ≠ ((.slice Ao34 t334.length co34):Value).ownBlock∧k_ ≠ gb317) (.slice Ao49 t338.length co49) t338)∧Aside0 (Kd.N k44 44 w' w.heap.size (fun k_=>(P0_2_ k_ ∨ w.heap.size ≤ k_)∧k_ ≠ gb317) v5 x5_3)∧Aside0 (Kd.N k44 44 w' w.heap.size (fun k_=>(P0_2_ k_ ∨ w.heap.size ≤ k_)∧some k_ ≠ ((.slice Ao49 t338.length co49):Value).ownBlock∧some k_ ≠ (v5:Value).ownBlock∧k_ ≠ gb317) (.slice Ao34 t334.length co34) t334)∧Aside0 (Kd.V k29 29 w' w.heap.size (fun k_=>(P0_2_ k_ ∨ w.heap.size ≤ k_)∧some k_ ≠ ((.slice Ao49 t338.length co49):Value).ownBlock∧some k_ ≠ (v5:Value).ownBlock∧some k_ ≠ ((.slice Ao34 t334.length co34):Value).ownBlock∧k_ ≠ gb317) (.slice (some ad333) l0_2.length c0_2) l0_2)∧Aside0 (w'.heap[gb317]? = some (.cells #[.int .i64 a0_0,.int .i64 a0_1,(.slice (some ad333) l0_2.length c0_2)] 29 (0,0)))∧Aside0 (Below w.heap.size w w'))
     case atStart=>exact ⟨(x5_2),(0),rfl,H',⟨Nat.le_refl _⟩,⟨nN (Kd.N_mono HO_4.out (fun _ hk=>⟨hk.1,⟨hk.2.2.1,⟨hk.2.1,hk.2.2.2⟩⟩⟩))⟩,⟨nN HO_5.out⟩,⟨nN (Kd.N_mono HO_3.out (fun _ hk=>⟨hk.1,⟨hk.2.1,⟨hk.2.2.1,hk.2.2.2.2⟩⟩⟩))⟩,⟨nV (Kd.V_mono HO_318002.out (fun _ hk=>⟨hk.1,⟨hk.2.2.1,⟨hk.2.2.2.1,⟨hk.2.1,hk.2.2.2.2.2⟩⟩⟩⟩))⟩,⟨nB BK317.out⟩,⟨bB⟩⟩
     case round =>
      clear H'
      try clear c50b0
      repeat (first | clear HO_4 | clear HO_5 | clear HO_92 | clear HO_318002 | clear BK317 | clear HB)
      obtain ⟨x5_3,x94_3,rfl,HA,HK3,HO_4,HO_5,HO_92,HO_318002,BK317,HB⟩:=hrel
      cases gk with
      | zero=>exact absurd HA.out (by simp [impl_ticksOf.l2])
      | succ k3 =>
       have H:=HA.out
       clear HA
       simp only [impl_ticksOf.l2] at H
       by_cases c64:x94_3 < (t334.length:Int);rotate_left
       ·rw [if_neg c64] at H
        have c64b0:decide (x94_3 < (t334.length:Int)) = false:=decide_eq_false c64
        clear c64
        obtain rfl:=Option.some.inj H
        go_wp2
        go_ret
        exact ⟨_,rfl,by (with_reducible repeat (first | apply Kd.N_alloc | apply Kd.N_drewN | apply Kd.N_drew));exact Kd.N_mono HO_5.out (fun _ hk=>hk.1),bB⟩
       rw [if_pos c64] at H
       have c64b0:decide (x94_3 < (t334.length:Int)) = true:=decide_eq_true c64
       clear c64
       by_cases c65:0 ≤ x94_3;rotate_left
       ·rw [if_neg c65] at H
        exact absurd H (by simp)
       rw [if_pos c65] at H
       have c65b0:decide (0 ≤ x94_3) = true:=decide_eq_true c65
       clear c65
       by_cases c66:x94_3 < (t334.length:Int);rotate_left
       ·rw [if_neg c66] at H
        exact absurd H (by simp)
       rw [if_pos c66] at H
       have c66b0:decide (x94_3 < (t334.length:Int)) = true:=decide_eq_true c66
       clear c66
       have H':=aQ H
       clear H
       have p366:0 ≤ (x94_3:Int):=of_decide_eq_true (by first | (with_reducible assumption) | assumption)
       have q366:x94_3 < (t334.length:Int):=of_decide_eq_true (by first | (with_reducible assumption) | assumption)
       obtain ⟨ad366,A366_3,c366_3,e366,hx366_0,hx366_1,hx366_2,hx366_3,hl366_3,hi366_3⟩:=at_T44 (Kd.N_reads' HO_92.out).2.2 x94_3 p366 q366
       cases e366
       obtain ⟨ce366,hce366,hMe366,hcc366⟩:=Kd.N_get HO_92.out z44 x94_3 p366 (by first | exact q366 | exact of_decide_eq_true (by first | (with_reducible assumption) | assumption) | (have e_:=(Kd.N_reads' HO_92.out).1;omega))
       obtain ⟨ua366_3,uc366_3,rfl,ul366_3,ge366_3⟩:=k44_openF hMe366
       have hv366_3:=hcc366 3 _ rfl
       rw [add_field _ _ 3 (by omega)] at hv366_3
       replace hv366_3:=Option.some.inj (hv366_3.symm.trans hx366_3)
       injection hv366_3 with hva_ hvn_ hvc_
       rw [hva_] at ge366_3
       rw [hvc_] at ul366_3
       have HL366_3:=aQ (show Kd.V k29 29 _ w.heap.size _ _ ((rd_T44 t334 x94_3).f1.f2) from Kd.V_mk ul366_3 ge366_3)
       clear hva_ hvn_ hvc_ ge366_3 ul366_3
       clear hcc366 hce366
       have HR366_3:=aQ hi366_3
       have HC366_3:=aQ hl366_3
       clear hi366_3 hl366_3
       replace p366:=eq_true p366
       replace q366:=eq_true q366
       go_wp2_with (first | ((with_reducible refine gate_dst (N:=11) rfl ?_);refine box1 (N:=11) (cs:=#[.int .i64 0,.int .i64 0,.int .i64 0,.slice none 0 0]) (t:=44) ?_;intro gb367 hg w67 hbox hb;replace HO_4:=aQ (Kd.N_below (Kd.N_elderB (nN HO_4.out) gb367 (Nat.le_of_eq hg.symm)) hb);replace HO_5:=aQ (Kd.N_below (Kd.N_elderB (nN HO_5.out) gb367 (Nat.le_of_eq hg.symm)) hb);replace HO_92:=aQ (Kd.N_below (Kd.N_elderB (nN HO_92.out) gb367 (Nat.le_of_eq hg.symm)) hb);replace HO_318002:=aQ (Kd.V_below (Kd.V_elderB (nV HO_318002.out) gb367 (Nat.le_of_eq hg.symm)) hb);replace HL366_3:=aQ (Kd.V_below (Kd.V_elderB (nV HL366_3.out) gb367 (Nat.le_of_eq hg.symm)) hb);replace HR366_3:=aQ (Kd.C_below (nC HR366_3.out) hb);have BK367:=aQ (hbox);have GW367:=aQ (gB:w.heap.size ≤ gb367);have GE367:=GW367;replace HB:=aQ (below_step bB hb);have NB317_367:=aQ ((by rw [hg];exact Nat.ne_of_lt (blk_lt (nB BK317.out)):gb317 ≠ gb367));have NB367_317:=aQ NB317_367.out.symm;replace BK317:=aQ (blk_below (nB BK317.out) hb);clear hb hbox hg;have hnb68:=NB367_317.out;have hnc68:=NB317_367.out;have hcz69_0:w67.cell? ⟨gb367,0,none⟩ = some (.int .i64 0):=(blk_cell BK367.out 0).trans rfl;have hcz69_1:w67.cell? ⟨gb367,1,none⟩ = some (.int .i64 0):=(blk_cell BK367.out 1).trans rfl;have hcz69_2:w67.cell? ⟨gb367,2,none⟩ = some (.int .i64 0):=(blk_cell BK367.out 2).trans rfl;have hcz69_3:w67.cell? ⟨gb367,3,none⟩ = some (.slice none 0 0):=(blk_cell BK367.out 3).trans rfl;have hfz69_0:=blk_frozen BK367.out 0;have hfz69_1:=blk_frozen BK367.out 1;have hfz69_2:=blk_frozen BK367.out 2;have hfz69_3:=blk_frozen BK367.out 3))
       go_loopg [5,100] k3 (fun kq v5 v100 w'=>∃ (x5_4:List (S44)) (x100_4:Int),v100 = .int .i64 x100_4∧Aside0 (impl_ticksOf.l3 kq t338 x5_4 t334 (t334.length:Int) x94_3 t338 (t338.length:Int) x100_4 ((rd_T44 t334 x94_3).f0) ((rd_T44 t334 x94_3).f1.f0) ((rd_T44 t334 x94_3).f1.f1) ((rd_T44 t334 x94_3).f1.f2) = some r)∧Aside0 (kq ≤ k3)∧Aside0 (Kd.N k44 44 w' w.heap.size (fun k_=>(P0_2_ k_ ∨ w.heap.size ≤ k_)∧some k_ ≠ (v5:Value).ownBlock∧some k_ ≠ ((.slice (some ad366) t334.length co34):Value).ownBlock∧k_ ≠ gb317∧k_ ≠ gb367) (.slice Ao49 t338.length co49) t338)∧Aside0 (Kd.N k44 44 w' w.heap.size (fun k_=>(P0_2_ k_ ∨ w.heap.size ≤ k_)∧k_ ≠ gb317∧k_ ≠ gb367) v5 x5_4)∧Aside0 (Kd.N k44 44 w' w.heap.size (fun k_=>(P0_2_ k_ ∨ w.heap.size ≤ k_)∧some k_ ≠ ((.slice Ao49 t338.length co49):Value).ownBlock∧some k_ ≠ (v5:Value).ownBlock∧some k_ ≠ ((.slice Ao49 t338.length co49):Value).ownBlock∧k_ ≠ gb317∧k_ ≠ gb367) (.slice (some ad366) t334.length co34) t334)∧Aside0 (Kd.N k44 44 w' w.heap.size (fun k_=>(P0_2_ k_ ∨ w.heap.size ≤ k_)∧some k_ ≠ (v5:Value).ownBlock∧some k_ ≠ ((.slice (some ad366) t334.length co34):Value).ownBlock∧k_ ≠ gb317∧k_ ≠ gb367) (.slice Ao49 t338.length co49) t338)∧Aside0 (Kd.V k29 29 w' w.heap.size (fun k_=>(P0_2_ k_ ∨ w.heap.size ≤ k_)∧some k_ ≠ ((.slice Ao49 t338.length co49):Value).ownBlock∧some k_ ≠ (v5:Value).ownBlock∧some k_ ≠ ((.slice (some ad366) t334.length co34):Value).ownBlock∧some k_ ≠ ((.slice Ao49 t338.length co49):Value).ownBlock∧k_ ≠ gb317∧k_ ≠ gb367) (.slice (some ad333) l0_2.length c0_2) l0_2)∧Aside0 (Kd.V k29 29 w' w.heap.size (fun k_=>(P0_2_ k_ ∨ w.heap.size ≤ k_)∧some k_ ≠ ((.slice Ao49 t338.length co49):Value).ownBlock∧some k_ ≠ (v5:Value).ownBlock∧some k_ ≠ ((.slice (some ad366) t334.length co34):Value).ownBlock∧some k_ ≠ ((.slice Ao49 t338.length co49):Value).ownBlock∧k_ ≠ gb317∧k_ ≠ gb367) (.slice A366_3 ((rd_T44 t334 x94_3).f1.f2).length c366_3) ((rd_T44 t334 x94_3).f1.f2))∧Aside0 (w'.heap[gb317]? = some (.cells #[.int .i64 a0_0,.int .i64 a0_1,(.slice (some ad333) l0_2.length c0_2)] 29 (0,0)))∧Aside0 (w'.heap[gb367]? = some (.cells #[.int .i64 ((rd_T44 t334 x94_3).f0),.int .i64 ((rd_T44 t334 x94_3).f1.f0),.int .i64 ((rd_T44 t334 x94_3).f1.f1),(.slice A366_3 ((rd_T44 t334 x94_3).f1.f2).length c366_3)] 44 (0,0)))∧Aside0 (Below w.heap.size w w'))
       case atStart=>exact ⟨(x5_3),(0),rfl,H',⟨Nat.le_refl _⟩,⟨Kd.N_mono (nFN (g:=gb367) HO_4.out (fun k_ hk=>hk.2)) (fun _ hk=>⟨hk.1.1,⟨hk.1.2.1,⟨hk.1.2.2.1,⟨hk.1.2.2.2,hk.2⟩⟩⟩⟩)⟩,⟨Kd.N_mono (nFN (g:=gb367) HO_5.out (fun k_ hk=>hk.2)) (fun _ hk=>⟨hk.1.1,⟨hk.1.2,hk.2⟩⟩)⟩,⟨Kd.N_mono (nFN (g:=gb367) HO_92.out (fun k_ hk=>hk.2)) (fun _ hk=>⟨hk.1.1,⟨hk.1.2.1,⟨hk.1.2.2.1,⟨hk.1.2.1,⟨hk.1.2.2.2,hk.2⟩⟩⟩⟩⟩)⟩,⟨Kd.N_mono (nFN (g:=gb367) HO_4.out (fun k_ hk=>hk.2)) (fun _ hk=>⟨hk.1.1,⟨hk.1.2.1,⟨hk.1.2.2.1,⟨hk.1.2.2.2,hk.2⟩⟩⟩⟩)⟩,⟨Kd.V_mono (nFV (g:=gb367) HO_318002.out (fun k_ hk=>hk.2)) (fun _ hk=>⟨hk.1.1,⟨hk.1.2.1,⟨hk.1.2.2.1,⟨hk.1.2.2.2.1,⟨hk.1.2.1,⟨hk.1.2.2.2.2,hk.2⟩⟩⟩⟩⟩⟩)⟩,⟨Kd.V_mono (nFV (g:=gb367) HL366_3.out (fun k_ hk=>hk.2)) (fun _ hk=>⟨hk.1.1.1,⟨hk.1.1.2.1,⟨hk.1.1.2.2.1,⟨hk.1.2,⟨hk.1.1.2.1,⟨hk.1.1.2.2.2,hk.2⟩⟩⟩⟩⟩⟩)⟩,⟨bF⟩,⟨bP⟩,⟨bB⟩⟩
       case round =>
        clear H'
        try clear c64b0
        try clear c65b0
        try clear c66b0
        try clear hcz69_0
        try clear hcz69_1
        try clear hcz69_2
        try clear hcz69_3
        try clear hfz69_0
        try clear hfz69_1
        try clear hfz69_2
        try clear hfz69_3
        try clear hx366_0
        try clear hx366_1
        try clear hx366_2
        try clear hx366_3
        try clear p366
        try clear q366
        repeat (first | clear HO_4 | clear HO_5 | clear HO_92 | clear HO_98 | clear HO_318002 | clear HO_368003 | clear BK317 | clear BK367 | clear HB)
        obtain ⟨x5_4,x100_4,rfl,HA,HK4,HO_4,HO_5,HO_92,HO_98,HO_318002,HO_368003,BK317,BK367,HB⟩:=hrel
        cases gk with
        | zero=>exact absurd HA.out (by simp [impl_ticksOf.l3])
        | succ k4 =>
         have H:=HA.out
         clear HA
         simp only [impl_ticksOf.l3] at H
         by_cases c70:x100_4 < (t338.length:Int);rotate_left
         ·rw [if_neg c70] at H
          have c70b0:decide (x100_4 < (t338.length:Int)) = false:=decide_eq_false c70
          clear c70
          have H':=aQ H
          clear H
          go_wp2
          go_roundg k4
          case measure=>have:=HK1.out;have:=HK2.out;have:=HK3.out;have:=HK4.out;omega
          case rel=>exact ⟨(x5_4),(wrap64 (x94_3 + 1)),rfl,H',⟨by have:=HK1.out;have:=HK2.out;have:=HK3.out;have:=HK4.out;omega⟩,⟨nN (Kd.N_mono HO_4.out (fun _ hk=>⟨hk.1,⟨hk.2.1,⟨hk.2.2.1,hk.2.2.2.1⟩⟩⟩))⟩,⟨nN (Kd.N_mono HO_5.out (fun _ hk=>⟨hk.1,hk.2.1⟩))⟩,⟨nN (Kd.N_mono HO_92.out (fun _ hk=>⟨hk.1,⟨hk.2.1,⟨hk.2.2.1,hk.2.2.2.2.1⟩⟩⟩))⟩,⟨nV (Kd.V_mono HO_318002.out (fun _ hk=>⟨hk.1,⟨hk.2.1,⟨hk.2.2.1,⟨hk.2.2.2.1,hk.2.2.2.2.2.1⟩⟩⟩⟩))⟩,⟨nB BK317.out⟩,⟨bB⟩⟩
         rw [if_pos c70] at H
         have c70b0:decide (x100_4 < (t338.length:Int)) = true:=decide_eq_true c70
         clear c70
         by_cases c71:0 ≤ x100_4;rotate_left
         ·rw [if_neg c71] at H
          exact absurd H (by simp)
         rw [if_pos c71] at H
         have c71b0:decide (0 ≤ x100_4) = true:=decide_eq_true c71
         clear c71
         by_cases c72:x100_4 < (t338.length:Int);rotate_left
         ·rw [if_neg c72] at H
          exact absurd H (by simp)
         rw [if_pos c72] at H
         have c72b0:decide (x100_4 < (t338.length:Int)) = true:=decide_eq_true c72
         clear c72
         by_cases c73:((rd_T44 t334 x94_3).f0) = 0
         ·rw [if_pos c73] at H
          have c73b0:(((rd_T44 t334 x94_3).f0) == 0) = true:=beq_iff_eq.mpr c73
          have c73b1:(((rd_T44 t334 x94_3).f0) != 0) = false:=bne_eq_false_iff_eq.mpr c73
          clear c73
          have H':=aQ H
          clear H
          have p368:0 ≤ (x100_4:Int):=of_decide_eq_true (by first | (with_reducible assumption) | assumption)
          have q368:x100_4 < (t338.length:Int):=of_decide_eq_true (by first | (with_reducible assumption) | assumption)
          obtain ⟨ad368,A368_3,c368_3,e368,hx368_0,hx368_1,hx368_2,hx368_3,hl368_3,hi368_3⟩:=at_T44 (Kd.N_reads' HO_98.out).2.2 x100_4 p368 q368
          cases e368
          obtain ⟨ce368,hce368,hMe368,hcc368⟩:=Kd.N_get HO_98.out z44 x100_4 p368 (by first | exact q368 | exact of_decide_eq_true (by first | (with_reducible assumption) | assumption) | (have e_:=(Kd.N_reads' HO_98.out).1;omega))
          obtain ⟨ua368_3,uc368_3,rfl,ul368_3,ge368_3⟩:=k44_openF hMe368
          have hv368_3:=hcc368 3 _ rfl
          rw [add_field _ _ 3 (by omega)] at hv368_3
          replace hv368_3:=Option.some.inj (hv368_3.symm.trans hx368_3)
          injection hv368_3 with hva_ hvn_ hvc_
          rw [hva_] at ge368_3
          rw [hvc_] at ul368_3
          have HL368_3:=aQ (show Kd.V k29 29 _ w.heap.size _ _ ((rd_T44 t338 x100_4).f1.f2) from Kd.V_mk ul368_3 ge368_3)
          clear hva_ hvn_ hvc_ ge368_3 ul368_3
          clear hcc368 hce368
          have HR368_3:=aQ hi368_3
          have HC368_3:=aQ hl368_3
          clear hi368_3 hl368_3
          replace p368:=eq_true p368
          replace q368:=eq_true q368
          go_wp2_with (first | ((with_reducible refine gate_dst (N:=13) rfl ?_);refine box1 (N:=13) (cs:=#[.int .i64 0,.int .i64 0,.int .i64 0,.slice none 0 0]) (t:=44) ?_;intro gb369 hg w74 hbox hb;replace HO_4:=aQ (Kd.N_below (Kd.N_elderB (nN HO_4.out) gb369 (Nat.le_of_eq hg.symm)) hb);replace HO_5:=aQ (Kd.N_below (Kd.N_elderB (nN HO_5.out) gb369 (Nat.le_of_eq hg.symm)) hb);replace HO_92:=aQ (Kd.N_below (Kd.N_elderB (nN HO_92.out) gb369 (Nat.le_of_eq hg.symm)) hb);replace HO_98:=aQ (Kd.N_below (Kd.N_elderB (nN HO_98.out) gb369 (Nat.le_of_eq hg.symm)) hb);replace HO_318002:=aQ (Kd.V_below (Kd.V_elderB (nV HO_318002.out) gb369 (Nat.le_of_eq hg.symm)) hb);replace HO_368003:=aQ (Kd.V_below (Kd.V_elderB (nV HO_368003.out) gb369 (Nat.le_of_eq hg.symm)) hb);replace HL368_3:=aQ (Kd.V_below (Kd.V_elderB (nV HL368_3.out) gb369 (Nat.le_of_eq hg.symm)) hb);replace HR368_3:=aQ (Kd.C_below (nC HR368_3.out) hb);have BK369:=aQ (hbox);have GW369:=aQ (gB:w.heap.size ≤ gb369);have GE369:=GW369;replace HB:=aQ (below_step bB hb);have NB317_369:=aQ ((by rw [hg];exact Nat.ne_of_lt (blk_lt (nB BK317.out)):gb317 ≠ gb369));have NB369_317:=aQ NB317_369.out.symm;replace BK317:=aQ (blk_below (nB BK317.out) hb);have NB367_369:=aQ ((by rw [hg];exact Nat.ne_of_lt (blk_lt (nB BK367.out)):gb367 ≠ gb369));have NB369_367:=aQ NB367_369.out.symm;replace BK367:=aQ (blk_below (nB BK367.out) hb);clear hb hbox hg;have hnb75:=NB369_317.out;have hnc75:=NB317_369.out;have hnb76:=NB369_367.out;have hnc76:=NB367_369.out;have hcz77_0:w74.cell? ⟨gb369,0,none⟩ = some (.int .i64 0):=(blk_cell BK369.out 0).trans rfl;have hcz77_1:w74.cell? ⟨gb369,1,none⟩ = some (.int .i64 0):=(blk_cell BK369.out 1).trans rfl;have hcz77_2:w74.cell? ⟨gb369,2,none⟩ = some (.int .i64 0):=(blk_cell BK369.out 2).trans rfl;have hcz77_3:w74.cell? ⟨gb369,3,none⟩ = some (.slice none 0 0):=(blk_cell BK369.out 3).trans rfl;have hfz77_0:=blk_frozen BK369.out 0;have hfz77_1:=blk_frozen BK369.out 1;have hfz77_2:=blk_frozen BK369.out 2;have hfz77_3:=blk_frozen BK369.out 3;have hnb78:=NB367_317.out;have hnc78:=NB317_367.out;have hcz79_0:w74.cell? ⟨gb367,0,none⟩ = some (.int .i64 ((rd_T44 t334 x94_3).f0)):=(blk_cell BK367.out 0).trans rfl;have hcz79_1:w74.cell? ⟨gb367,1,none⟩ = some (.int .i64 ((rd_T44 t334 x94_3).f1.f0)):=(blk_cell BK367.out 1).trans rfl;have hcz79_2:w74.cell? ⟨gb367,2,none⟩ = some (.int .i64 ((rd_T44 t334 x94_3).f1.f1)):=(blk_cell BK367.out 2).trans rfl;have hcz79_3:w74.cell? ⟨gb367,3,none⟩ = some (.slice A366_3 ((rd_T44 t334 x94_3).f1.f2).length c366_3):=(blk_cell BK367.out 3).trans rfl;have hfz79_0:=blk_frozen BK367.out 0;have hfz79_1:=blk_frozen BK367.out 1;have hfz79_2:=blk_frozen BK367.out 2;have hfz79_3:=blk_frozen BK367.out 3))
          go_roundg k4
          case measure=>have:=HK1.out;have:=HK2.out;have:=HK3.out;have:=HK4.out;omega
          case rel=>exact ⟨(x5_4),(wrap64 (x100_4 + 1)),rfl,H',⟨by have:=HK1.out;have:=HK2.out;have:=HK3.out;have:=HK4.out;omega⟩,⟨Kd.N_mono (nFN (g:=gb369) HO_4.out (fun k_ hk=>hk.2)) (fun _ hk=>⟨hk.1.1,⟨hk.1.2.1,⟨hk.1.2.2.1,⟨hk.1.2.2.2.1,hk.1.2.2.2.2⟩⟩⟩⟩)⟩,⟨Kd.N_mono (nFN (g:=gb369) HO_5.out (fun k_ hk=>hk.2)) (fun _ hk=>⟨hk.1.1,⟨hk.1.2.1,hk.1.2.2⟩⟩)⟩,⟨Kd.N_mono (nFN (g:=gb369) HO_92.out (fun k_ hk=>hk.2)) (fun _ hk=>⟨hk.1.1,⟨hk.1.2.1,⟨hk.1.2.2.1,⟨hk.1.2.2.2.1,⟨hk.1.2.2.2.2.1,hk.1.2.2.2.2.2⟩⟩⟩⟩⟩)⟩,⟨Kd.N_mono (nFN (g:=gb369) HO_98.out (fun k_ hk=>hk.2)) (fun _ hk=>⟨hk.1.1,⟨hk.1.2.1,⟨hk.1.2.2.1,⟨hk.1.2.2.2.1,hk.1.2.2.2.2⟩⟩⟩⟩)⟩,⟨Kd.V_mono (nFV (g:=gb369) HO_318002.out (fun k_ hk=>hk.2)) (fun _ hk=>⟨hk.1.1,⟨hk.1.2.1,⟨hk.1.2.2.1,⟨hk.1.2.2.2.1,⟨hk.1.2.2.2.2.1,⟨hk.1.2.2.2.2.2.1,hk.1.2.2.2.2.2.2⟩⟩⟩⟩⟩⟩)⟩,⟨Kd.V_mono (nFV (g:=gb369) HO_368003.out (fun k_ hk=>hk.2)) (fun _ hk=>⟨hk.1.1,⟨hk.1.2.1,⟨hk.1.2.2.1,⟨hk.1.2.2.2.1,⟨hk.1.2.2.2.2.1,⟨hk.1.2.2.2.2.2.1,hk.1.2.2.2.2.2.2⟩⟩⟩⟩⟩⟩)⟩,⟨bF⟩,⟨bF⟩,⟨bB⟩⟩
         rw [if_neg c73] at H
         have c73b0:(((rd_T44 t334 x94_3).f0) == 0) = false:=beq_eq_false_iff_ne.mpr c73
         have c73b1:(((rd_T44 t334 x94_3).f0) != 0) = true:=bne_iff_ne.mpr c73
         by_cases c80:((rd_T44 t334 x94_3).f0) = (wrap64 (-((rd_T44 t338 x100_4).f0)));rotate_left
         ·rw [if_neg c80] at H
          have c80b0:(((rd_T44 t334 x94_3).f0) == (wrap64 (-((rd_T44 t338 x100_4).f0)))) = false:=beq_eq_false_iff_ne.mpr c80
          have c80b1:(((rd_T44 t334 x94_3).f0) != (wrap64 (-((rd_T44 t338 x100_4).f0)))) = true:=bne_iff_ne.mpr c80
          have H':=aQ H
          clear H
          have p368:0 ≤ (x100_4:Int):=of_decide_eq_true (by first | (with_reducible assumption) | assumption)
          have q368:x100_4 < (t338.length:Int):=of_decide_eq_true (by first | (with_reducible assumption) | assumption)
          obtain ⟨ad368,A368_3,c368_3,e368,hx368_0,hx368_1,hx368_2,hx368_3,hl368_3,hi368_3⟩:=at_T44 (Kd.N_reads' HO_98.out).2.2 x100_4 p368 q368
          cases e368
          obtain ⟨ce368,hce368,hMe368,hcc368⟩:=Kd.N_get HO_98.out z44 x100_4 p368 (by first | exact q368 | exact of_decide_eq_true (by first | (with_reducible assumption) | assumption) | (have e_:=(Kd.N_reads' HO_98.out).1;omega))
          obtain ⟨ua368_3,uc368_3,rfl,ul368_3,ge368_3⟩:=k44_openF hMe368
          have hv368_3:=hcc368 3 _ rfl
          rw [add_field _ _ 3 (by omega)] at hv368_3
          replace hv368_3:=Option.some.inj (hv368_3.symm.trans hx368_3)
          injection hv368_3 with hva_ hvn_ hvc_
          rw [hva_] at ge368_3
          rw [hvc_] at ul368_3
          have HL368_3:=aQ (show Kd.V k29 29 _ w.heap.size _ _ ((rd_T44 t338 x100_4).f1.f2) from Kd.V_mk ul368_3 ge368_3)
          clear hva_ hvn_ hvc_ ge368_3 ul368_3
          clear hcc368 hce368
          have HR368_3:=aQ hi368_3
          have HC368_3:=aQ hl368_3
          clear hi368_3 hl368_3
          replace p368:=eq_true p368
          replace q368:=eq_true q368
          go_wp2_with (first | ((with_reducible refine gate_dst (N:=13) rfl ?_);refine box1 (N:=13) (cs:=#[.int .i64 0,.int .i64 0,.int .i64 0,.slice none 0 0]) (t:=44) ?_;intro gb369 hg w94 hbox hb;replace HO_4:=aQ (Kd.N_below (Kd.N_elderB (nN HO_4.out) gb369 (Nat.le_of_eq hg.symm)) hb);replace HO_5:=aQ (Kd.N_below (Kd.N_elderB (nN HO_5.out) gb369 (Nat.le_of_eq hg.symm)) hb);replace HO_92:=aQ (Kd.N_below (Kd.N_elderB (nN HO_92.out) gb369 (Nat.le_of_eq hg.symm)) hb);replace HO_98:=aQ (Kd.N_below (Kd.N_elderB (nN HO_98.out) gb369 (Nat.le_of_eq hg.symm)) hb);replace HO_318002:=aQ (Kd.V_below (Kd.V_elderB (nV HO_318002.out) gb369 (Nat.le_of_eq hg.symm)) hb);replace HO_368003:=aQ (Kd.V_below (Kd.V_elderB (nV HO_368003.out) gb369 (Nat.le_of_eq hg.symm)) hb);replace HL368_3:=aQ (Kd.V_below (Kd.V_elderB (nV HL368_3.out) gb369 (Nat.le_of_eq hg.symm)) hb);replace HR368_3:=aQ (Kd.C_below (nC HR368_3.out) hb);have BK369:=aQ (hbox);have GW369:=aQ (gB:w.heap.size ≤ gb369);have GE369:=GW369;replace HB:=aQ (below_step bB hb);have NB317_369:=aQ ((by rw [hg];exact Nat.ne_of_lt (blk_lt (nB BK317.out)):gb317 ≠ gb369));have NB369_317:=aQ NB317_369.out.symm;replace BK317:=aQ (blk_below (nB BK317.out) hb);have NB367_369:=aQ ((by rw [hg];exact Nat.ne_of_lt (blk_lt (nB BK367.out)):gb367 ≠ gb369));have NB369_367:=aQ NB367_369.out.symm;replace BK367:=aQ (blk_below (nB BK367.out) hb);clear hb hbox hg;have hnb95:=NB369_317.out;have hnc95:=NB317_369.out;have hnb96:=NB369_367.out;have hnc96:=NB367_369.out;have hcz97_0:w94.cell? ⟨gb369,0,none⟩ = some (.int .i64 0):=(blk_cell BK369.out 0).trans rfl;have hcz97_1:w94.cell? ⟨gb369,1,none⟩ = some (.int .i64 0):=(blk_cell BK369.out 1).trans rfl;have hcz97_2:w94.cell? ⟨gb369,2,none⟩ = some (.int .i64 0):=(blk_cell BK369.out 2).trans rfl;have hcz97_3:w94.cell? ⟨gb369,3,none⟩ = some (.slice none 0 0):=(blk_cell BK369.out 3).trans rfl;have hfz97_0:=blk_frozen BK369.out 0;have hfz97_1:=blk_frozen BK369.out 1;have hfz97_2:=blk_frozen BK369.out 2;have hfz97_3:=blk_frozen BK369.out 3;have hnb98:=NB367_317.out;have hnc98:=NB317_367.out;have hcz99_0:w94.cell? ⟨gb367,0,none⟩ = some (.int .i64 ((rd_T44 t334 x94_3).f0)):=(blk_cell BK367.out 0).trans rfl;have hcz99_1:w94.cell? ⟨gb367,1,none⟩ = some (.int .i64 ((rd_T44 t334 x94_3).f1.f0)):=(blk_cell BK367.out 1).trans rfl;have hcz99_2:w94.cell? ⟨gb367,2,none⟩ = some (.int .i64 ((rd_T44 t334 x94_3).f1.f1)):=(blk_cell BK367.out 2).trans rfl;have hcz99_3:w94.cell? ⟨gb367,3,none⟩ = some (.slice A366_3 ((rd_T44 t334 x94_3).f1.f2).length c366_3):=(blk_cell BK367.out 3).trans rfl;have hfz99_0:=blk_frozen BK367.out 0;have hfz99_1:=blk_frozen BK367.out 1;have hfz99_2:=blk_frozen BK367.out 2;have hfz99_3:=blk_frozen BK367.out 3))
          go_roundg k4
          case measure=>have:=HK1.out;have:=HK2.out;have:=HK3.out;have:=HK4.out;omega
          case rel=>exact ⟨(x5_4),(wrap64 (x100_4 + 1)),rfl,H',⟨by have:=HK1.out;have:=HK2.out;have:=HK3.out;have:=HK4.out;omega⟩,⟨Kd.N_mono (nFN (g:=gb369) HO_4.out (fun k_ hk=>hk.2)) (fun _ hk=>⟨hk.1.1,⟨hk.1.2.1,⟨hk.1.2.2.1,⟨hk.1.2.2.2.1,hk.1.2.2.2.2⟩⟩⟩⟩)⟩,⟨Kd.N_mono (nFN (g:=gb369) HO_5.out (fun k_ hk=>hk.2)) (fun _ hk=>⟨hk.1.1,⟨hk.1.2.1,hk.1.2.2⟩⟩)⟩,⟨Kd.N_mono (nFN (g:=gb369) HO_92.out (fun k_ hk=>hk.2)) (fun _ hk=>⟨hk.1.1,⟨hk.1.2.1,⟨hk.1.2.2.1,⟨hk.1.2.2.2.1,⟨hk.1.2.2.2.2.1,hk.1.2.2.2.2.2⟩⟩⟩⟩⟩)⟩,⟨Kd.N_mono (nFN (g:=gb369) HO_98.out (fun k_ hk=>hk.2)) (fun _ hk=>⟨hk.1.1,⟨hk.1.2.1,⟨hk.1.2.2.1,⟨hk.1.2.2.2.1,hk.1.2.2.2.2⟩⟩⟩⟩)⟩,⟨Kd.V_mono (nFV (g:=gb369) HO_318002.out (fun k_ hk=>hk.2)) (fun _ hk=>⟨hk.1.1,⟨hk.1.2.1,⟨hk.1.2.2.1,⟨hk.1.2.2.2.1,⟨hk.1.2.2.2.2.1,⟨hk.1.2.2.2.2.2.1,hk.1.2.2.2.2.2.2⟩⟩⟩⟩⟩⟩)⟩,⟨Kd.V_mono (nFV (g:=gb369) HO_368003.out (fun k_ hk=>hk.2)) (fun _ hk=>⟨hk.1.1,⟨hk.1.2.1,⟨hk.1.2.2.1,⟨hk.1.2.2.2.1,⟨hk.1.2.2.2.2.1,⟨hk.1.2.2.2.2.2.1,hk.1.2.2.2.2.2.2⟩⟩⟩⟩⟩⟩)⟩,⟨bF⟩,⟨bF⟩,⟨bB⟩⟩
         rw [if_pos c80] at H
         have c80b0:(((rd_T44 t334 x94_3).f0) == (wrap64 (-((rd_T44 t338 x100_4).f0)))) = true:=beq_iff_eq.mpr c80
         have c80b1:(((rd_T44 t334 x94_3).f0) != (wrap64 (-((rd_T44 t338 x100_4).f0)))) = false:=bne_eq_false_iff_eq.mpr c80
         clear c80
         obtain ⟨⟨t370,t371,t372⟩,A81,H⟩:=bQ H
         dsimp only at H
         by_cases c82:x5_4.length < 2932031007402;rotate_left
         ·rw [if_neg c82] at H
          exact absurd H (by simp)
         rw [if_pos c82] at H
         have LMc82:=aQ c82
         clear c82
         obtain ⟨y375,hy375⟩:∃ y_:List (S44),y_ = (x5_4 ++ [(⟨0,(⟨t370,t371,t372⟩:S29)⟩:S44)]):=⟨_,rfl⟩
         replace H:(impl_ticksOf.l3 k4 t338 y375 t334 (t334.length:Int) x94_3 t338 (t338.length:Int) (wrap64 (x100_4 + 1)) ((rd_T44 t334 x94_3).f0) ((rd_T44 t334 x94_3).f1.f0) ((rd_T44 t334 x94_3).f1.f1) ((rd_T44 t334 x94_3).f1.f2)) = some r:=by rw [hy375];exact H
         have Ny375:=aQ hy375
         clear hy375
         have H':=aQ H
         clear H
         have p368:0 ≤ (x100_4:Int):=of_decide_eq_true (by first | (with_reducible assumption) | assumption)
         have q368:x100_4 < (t338.length:Int):=of_decide_eq_true (by first | (with_reducible assumption) | assumption)
         obtain ⟨ad368,A368_3,c368_3,e368,hx368_0,hx368_1,hx368_2,hx368_3,hl368_3,hi368_3⟩:=at_T44 (Kd.N_reads' HO_98.out).2.2 x100_4 p368 q368
         cases e368
         obtain ⟨ce368,hce368,hMe368,hcc368⟩:=Kd.N_get HO_98.out z44 x100_4 p368 (by first | exact q368 | exact of_decide_eq_true (by first | (with_reducible assumption) | assumption) | (have e_:=(Kd.N_reads' HO_98.out).1;omega))
         obtain ⟨ua368_3,uc368_3,rfl,ul368_3,ge368_3⟩:=k44_openF hMe368
         have hv368_3:=hcc368 3 _ rfl
         rw [add_field _ _ 3 (by omega)] at hv368_3
         replace hv368_3:=Option.some.inj (hv368_3.symm.trans hx368_3)
         injection hv368_3 with hva_ hvn_ hvc_
         rw [hva_] at ge368_3
         rw [hvc_] at ul368_3
         have HL368_3:=aQ (show Kd.V k29 29 _ w.heap.size _ _ ((rd_T44 t338 x100_4).f1.f2) from Kd.V_mk ul368_3 ge368_3)
         clear hva_ hvn_ hvc_ ge368_3 ul368_3
         clear hcc368 hce368
         have HR368_3:=aQ hi368_3
         have HC368_3:=aQ hl368_3
         clear hi368_3 hl368_3
         replace p368:=eq_true p368
         replace q368:=eq_true q368
         go_wp2_with (first | ((with_reducible refine gate_dst (N:=13) rfl ?_);refine box1 (N:=13) (cs:=#[.int .i64 0,.int .i64 0,.int .i64 0,.slice none 0 0]) (t:=44) ?_;intro gb369 hg w83 hbox hb;replace HO_4:=aQ (Kd.N_below (Kd.N_elderB (nN HO_4.out) gb369 (Nat.le_of_eq hg.symm)) hb);replace HO_5:=aQ (Kd.N_below (Kd.N_elderB (nN HO_5.out) gb369 (Nat.le_of_eq hg.symm)) hb);replace HO_92:=aQ (Kd.N_below (Kd.N_elderB (nN HO_92.out) gb369 (Nat.le_of_eq hg.symm)) hb);replace HO_98:=aQ (Kd.N_below (Kd.N_elderB (nN HO_98.out) gb369 (Nat.le_of_eq hg.symm)) hb);replace HO_318002:=aQ (Kd.V_below (Kd.V_elderB (nV HO_318002.out) gb369 (Nat.le_of_eq hg.symm)) hb);replace HO_368003:=aQ (Kd.V_below (Kd.V_elderB (nV HO_368003.out) gb369 (Nat.le_of_eq hg.symm)) hb);replace HL368_3:=aQ (Kd.V_below (Kd.V_elderB (nV HL368_3.out) gb369 (Nat.le_of_eq hg.symm)) hb);replace HR368_3:=aQ (Kd.C_below (nC HR368_3.out) hb);have BK369:=aQ (hbox);have GW369:=aQ (gB:w.heap.size ≤ gb369);have GE369:=GW369;replace HB:=aQ (below_step bB hb);have NB317_369:=aQ ((by rw [hg];exact Nat.ne_of_lt (blk_lt (nB BK317.out)):gb317 ≠ gb369));have NB369_317:=aQ NB317_369.out.symm;replace BK317:=aQ (blk_below (nB BK317.out) hb);have NB367_369:=aQ ((by rw [hg];exact Nat.ne_of_lt (blk_lt (nB BK367.out)):gb367 ≠ gb369));have NB369_367:=aQ NB367_369.out.symm;replace BK367:=aQ (blk_below (nB BK367.out) hb);clear hb hbox hg;have hnb84:=NB369_317.out;have hnc84:=NB317_369.out;have hnb85:=NB369_367.out;have hnc85:=NB367_369.out;have hcz86_0:w83.cell? ⟨gb369,0,none⟩ = some (.int .i64 0):=(blk_cell BK369.out 0).trans rfl;have hcz86_1:w83.cell? ⟨gb369,1,none⟩ = some (.int .i64 0):=(blk_cell BK369.out 1).trans rfl;have hcz86_2:w83.cell? ⟨gb369,2,none⟩ = some (.int .i64 0):=(blk_cell BK369.out 2).trans rfl;have hcz86_3:w83.cell? ⟨gb369,3,none⟩ = some (.slice none 0 0):=(blk_cell BK369.out 3).trans rfl;have hfz86_0:=blk_frozen BK369.out 0;have hfz86_1:=blk_frozen BK369.out 1;have hfz86_2:=blk_frozen BK369.out 2;have hfz86_3:=blk_frozen BK369.out 3) | ((with_reducible refine gate_store (t:=44) (p:=13) rfl ?_);refine store_event (t:=44) (p:=13) (v:=?vo_w87) (w1:=((((w83.setCell ⟨gb369,0,none⟩ (.int .i64 ((rd_T44 t338 x100_4).f0))).setCell ⟨gb369,1,none⟩ (.int .i64 ((rd_T44 t338 x100_4).f1.f0))).setCell ⟨gb369,2,none⟩ (.int .i64 ((rd_T44 t338 x100_4).f1.f1))).setCell ⟨gb369,3,none⟩ (.slice A368_3 ((rd_T44 t338 x100_4).f1.f2).length c368_3))) ?hg ?ho ?hn ?hr ?_;(case ho=>rfl);(case hg=>rfl);(case hn=>rfl);(case hr=>first | (go_simp;done) | (go_simp;rfl));intro w87 hw;have n0_:Aside0 (Kd.N k44 44 w87 w.heap.size (fun k_=>(P0_2_ k_ ∨ w.heap.size ≤ k_)∧some k_ ≠ (u5:Value).ownBlock∧some k_ ≠ (.slice (some ad366) t334.length co34:Value).ownBlock∧k_ ≠ gb317∧k_ ≠ gb367∧k_ ≠ gb369) (.slice (some ad368) t338.length co49) t338):=⟨(by rw [hw];exact (Kd.N_mono (nFN (g:=gb369) HO_4.out (fun k_ hk=>hk.2)) (fun _ hk=>⟨hk.1.1,⟨hk.1.2.1,⟨hk.1.2.2.1,⟨hk.1.2.2.2.1,⟨hk.1.2.2.2.2,hk.2⟩⟩⟩⟩⟩)))⟩;have n1_:Aside0 (Kd.N k44 44 w87 w.heap.size (fun k_=>(P0_2_ k_ ∨ w.heap.size ≤ k_)∧k_ ≠ gb317∧k_ ≠ gb367∧k_ ≠ gb369) u5 x5_4):=⟨(by rw [hw];exact (Kd.N_mono (nFN (g:=gb369) HO_5.out (fun k_ hk=>hk.2)) (fun _ hk=>⟨hk.1.1,⟨hk.1.2.1,⟨hk.1.2.2,hk.2⟩⟩⟩)))⟩;have n2_:Aside0 (Kd.N k44 44 w87 w.heap.size (fun k_=>(P0_2_ k_ ∨ w.heap.size ≤ k_)∧some k_ ≠ (.slice (some ad368) t338.length co49:Value).ownBlock∧some k_ ≠ (u5:Value).ownBlock∧some k_ ≠ (.slice (some ad368) t338.length co49:Value).ownBlock∧k_ ≠ gb317∧k_ ≠ gb367∧k_ ≠ gb369) (.slice (some ad366) t334.length co34) t334):=⟨(by rw [hw];exact (Kd.N_mono (nFN (g:=gb369) HO_92.out (fun k_ hk=>hk.2)) (fun _ hk=>⟨hk.1.1,⟨hk.1.2.1,⟨hk.1.2.2.1,⟨hk.1.2.2.2.1,⟨hk.1.2.2.2.2.1,⟨hk.1.2.2.2.2.2,hk.2⟩⟩⟩⟩⟩⟩)))⟩;have n3_:Aside0 (Kd.N k44 44 w87 w.heap.size (fun k_=>(P0_2_ k_ ∨ w.heap.size ≤ k_)∧some k_ ≠ (u5:Value).ownBlock∧some k_ ≠ (.slice (some ad366) t334.length co34:Value).ownBlock∧k_ ≠ gb317∧k_ ≠ gb367∧k_ ≠ gb369) (.slice (some ad368) t338.length co49) t338):=⟨(by rw [hw];exact (Kd.N_mono (nFN (g:=gb369) HO_98.out (fun k_ hk=>hk.2)) (fun _ hk=>⟨hk.1.1,⟨hk.1.2.1,⟨hk.1.2.2.1,⟨hk.1.2.2.2.1,⟨hk.1.2.2.2.2,hk.2⟩⟩⟩⟩⟩)))⟩;have n4_:Aside0 (Kd.V k29 29 w87 w.heap.size (fun k_=>(P0_2_ k_ ∨ w.heap.size ≤ k_)∧some k_ ≠ (.slice (some ad368) t338.length co49:Value).ownBlock∧some k_ ≠ (u5:Value).ownBlock∧some k_ ≠ (.slice (some ad366) t334.length co34:Value).ownBlock∧some k_ ≠ (.slice (some ad368) t338.length co49:Value).ownBlock∧k_ ≠ gb317∧k_ ≠ gb367∧k_ ≠ gb369) (.slice (some ad333) l0_2.length c0_2) l0_2):=⟨(by rw [hw];exact (Kd.V_mono (nFV (g:=gb369) HO_318002.out (fun k_ hk=>hk.2)) (fun _ hk=>⟨hk.1.1,⟨hk.1.2.1,⟨hk.1.2.2.1,⟨hk.1.2.2.2.1,⟨hk.1.2.2.2.2.1,⟨hk.1.2.2.2.2.2.1,⟨hk.1.2.2.2.2.2.2,hk.2⟩⟩⟩⟩⟩⟩⟩)))⟩;have n5_:Aside0 (Kd.V k29 29 w87 w.heap.size (fun k_=>(P0_2_ k_ ∨ w.heap.size ≤ k_)∧some k_ ≠ (.slice (some ad368) t338.length co49:Value).ownBlock∧some k_ ≠ (u5:Value).ownBlock∧some k_ ≠ (.slice (some ad366) t334.length co34:Value).ownBlock∧some k_ ≠ (.slice (some ad368) t338.length co49:Value).ownBlock∧k_ ≠ gb317∧k_ ≠ gb367∧k_ ≠ gb369) (.slice A366_3 ((rd_T44 t334 x94_3).f1.f2).length c366_3) ((rd_T44 t334 x94_3).f1.f2)):=⟨(by rw [hw];exact (Kd.V_mono (nFV (g:=gb369) HO_368003.out (fun k_ hk=>hk.2)) (fun _ hk=>⟨hk.1.1,⟨hk.1.2.1,⟨hk.1.2.2.1,⟨hk.1.2.2.2.1,⟨hk.1.2.2.2.2.1,⟨hk.1.2.2.2.2.2.1,⟨hk.1.2.2.2.2.2.2,hk.2⟩⟩⟩⟩⟩⟩⟩)))⟩;have n6_:Aside0 (Kd.V k29 29 w87 w.heap.size (fun k_=>(P0_2_ k_ ∨ w.heap.size ≤ k_)∧some k_ ≠ (u5:Value).ownBlock∧some k_ ≠ (.slice (some ad366) t334.length co34:Value).ownBlock∧some k_ ≠ (.slice (some ad368) t338.length co49:Value).ownBlock∧k_ ≠ gb317∧k_ ≠ gb367∧k_ ≠ gb369) (.slice A368_3 ((rd_T44 t338 x100_4).f1.f2).length c368_3) ((rd_T44 t338 x100_4).f1.f2)):=⟨(by rw [hw];exact (Kd.V_mono (nFV (g:=gb369) HL368_3.out (fun k_ hk=>hk.2)) (fun _ hk=>⟨hk.1.1.1,⟨hk.1.1.2.1,⟨hk.1.1.2.2.1,⟨hk.1.2,⟨hk.1.1.2.2.2.1,⟨hk.1.1.2.2.2.2,hk.2⟩⟩⟩⟩⟩⟩)))⟩;have n7_:Aside0 (w87.heap[gb317]? = some (.cells #[.int .i64 a0_0,.int .i64 a0_1,.slice (some ad333) l0_2.length c0_2] 29 (0,0))):=⟨(by rw [hw];exact bF)⟩;have n8_:Aside0 (w87.heap[gb367]? = some (.cells #[.int .i64 ((rd_T44 t334 x94_3).f0),.int .i64 ((rd_T44 t334 x94_3).f1.f0),.int .i64 ((rd_T44 t334 x94_3).f1.f1),.slice A366_3 ((rd_T44 t334 x94_3).f1.f2).length c366_3] 44 (0,0))):=⟨(by rw [hw];exact bF)⟩;have n9_:Aside0 (w87.heap[gb369]? = some (.cells #[.int .i64 ((rd_T44 t338 x100_4).f0),.int .i64 ((rd_T44 t338 x100_4).f1.f0),.int .i64 ((rd_T44 t338 x100_4).f1.f1),.slice A368_3 ((rd_T44 t338 x100_4).f1.f2).length c368_3] 44 (0,0))):=⟨(by rw [hw];exact bP)⟩;have n10_:Aside0 (Below w.heap.size w w87):=⟨(by rw [hw];exact bB)⟩;clear hw;clear HO_4;clear HO_5;clear HO_92;clear HO_98;clear HO_318002;clear HO_368003;clear HL368_3;clear BK317;clear BK367;clear BK369;clear HB;have HO_4:=n0_;have HO_5:=n1_;have HO_92:=n2_;have HO_98:=n3_;have HO_318002:=n4_;have HO_368003:=n5_;have HL368_3:=n6_;have BK317:=n7_;have BK367:=n8_;have BK369:=n9_;have HB:=n10_;clear n0_ n1_ n2_ n3_ n4_ n5_ n6_ n7_ n8_ n9_ n10_;have hnb88:=NB367_317.out;have hnc88:=NB317_367.out;have hcz89_0:w87.cell? ⟨gb367,0,none⟩ = some (.int .i64 ((rd_T44 t334 x94_3).f0)):=(blk_cell BK367.out 0).trans rfl;have hcz89_1:w87.cell? ⟨gb367,1,none⟩ = some (.int .i64 ((rd_T44 t334 x94_3).f1.f0)):=(blk_cell BK367.out 1).trans rfl;have hcz89_2:w87.cell? ⟨gb367,2,none⟩ = some (.int .i64 ((rd_T44 t334 x94_3).f1.f1)):=(blk_cell BK367.out 2).trans rfl;have hcz89_3:w87.cell? ⟨gb367,3,none⟩ = some (.slice A366_3 ((rd_T44 t334 x94_3).f1.f2).length c366_3):=(blk_cell BK367.out 3).trans rfl;have hfz89_0:=blk_frozen BK367.out 0;have hfz89_1:=blk_frozen BK367.out 1;have hfz89_2:=blk_frozen BK367.out 2;have hfz89_3:=blk_frozen BK367.out 3;have hcz90_0:w87.cell? ⟨gb369,0,none⟩ = some (.int .i64 ((rd_T44 t338 x100_4).f0)):=(blk_cell BK369.out 0).trans rfl;have hcz90_1:w87.cell? ⟨gb369,1,none⟩ = some (.int .i64 ((rd_T44 t338 x100_4).f1.f0)):=(blk_cell BK369.out 1).trans rfl;have hcz90_2:w87.cell? ⟨gb369,2,none⟩ = some (.int .i64 ((rd_T44 t338 x100_4).f1.f1)):=(blk_cell BK369.out 2).trans rfl;have hcz90_3:w87.cell? ⟨gb369,3,none⟩ = some (.slice A368_3 ((rd_T44 t338 x100_4).f1.f2).length c368_3):=(blk_cell BK369.out 3).trans rfl;have hfz90_0:=blk_frozen BK369.out 0;have hfz90_1:=blk_frozen BK369.out 1;have hfz90_2:=blk_frozen BK369.out 2;have hfz90_3:=blk_frozen BK369.out 3) | ((with_reducible refine gate_callee (f:=62) rfl ?_);refine goesL_ (some 120) rfl rfl Try.func62 (by kernel_rfl) rfl #[.agg #[.int .i64 ((rd_T44 t334 x94_3).f1.f0),.int .i64 ((rd_T44 t334 x94_3).f1.f1),.slice A366_3 ((rd_T44 t334 x94_3).f1.f2).length c366_3],.agg #[.int .i64 ((rd_T44 t338 x100_4).f1.f0),.int .i64 ((rd_T44 t338 x100_4).f1.f1),.slice A368_3 ((rd_T44 t338 x100_4).f1.f2).length c368_3]] rfl mP ?_;(with_reducible refine (impl_beside.calls ((rd_T44 t334 x94_3).f1.f0) ((rd_T44 t334 x94_3).f1.f1) (fun k_=>((P0_2_ k_ ∨ w.heap.size ≤ k_)∧(some k_ ≠ (.slice (some ad368) t338.length co49:Value).ownBlock∧(some k_ ≠ (u5:Value).ownBlock∧(some k_ ≠ (.slice (some ad366) t334.length co34:Value).ownBlock∧(some k_ ≠ (.slice (some ad368) t338.length co49:Value).ownBlock∧(k_ ≠ gb317∧(k_ ≠ gb367∧k_ ≠ gb369)))))))) _ _ ((rd_T44 t334 x94_3).f1.f2) ((rd_T44 t338 x100_4).f1.f0) ((rd_T44 t338 x100_4).f1.f1) (fun k_=>((P0_2_ k_ ∨ w.heap.size ≤ k_)∧(some k_ ≠ (u5:Value).ownBlock∧(some k_ ≠ (.slice (some ad366) t334.length co34:Value).ownBlock∧(some k_ ≠ (.slice (some ad368) t338.length co49:Value).ownBlock∧(k_ ≠ gb317∧(k_ ≠ gb367∧k_ ≠ gb369))))))) _ _ ((rd_T44 t338 x100_4).f1.f2) t370 t371 t372 _ ?side1 ?side2 A81.out).mono ?_);(case side1=>exact HO_368003.out);(case side2=>exact HL368_3.out);rintro e w91 ⟨v373,rfl,ho0,hb⟩;refine ⟨_,rfl,?_⟩;have n0_:=aQ (Kd.N_elder' (nN HO_4.out) (Kd.N_base ho0) hb);have n1_:=aQ (Kd.N_elder' (nN HO_5.out) (Kd.N_base ho0) hb);have n2_:=aQ (Kd.N_elder' (nN HO_92.out) (Kd.N_base ho0) hb);have n3_:=aQ (Kd.N_elder' (nN HO_98.out) (Kd.N_base ho0) hb);have n4_:=aQ (Kd.V_elder' (nV HO_318002.out) (Kd.N_base ho0) hb);have n5_:=aQ (Kd.V_elder' (nV HO_368003.out) (Kd.N_base ho0) hb);have n6_:=aQ (Kd.V_elder' (nV HL368_3.out) (Kd.N_base ho0) hb);have n7_:=aQ (Kd.N_lower (Kd.N_mono (ok':=fun k_=>(P0_2_ k_ ∨ w.heap.size ≤ k_)∧some k_ ≠ (u5:Value).ownBlock∧some k_ ≠ (.slice (some ad366) t334.length co34:Value).ownBlock∧some k_ ≠ (.slice (some ad368) t338.length co49:Value).ownBlock∧k_ ≠ gb317∧k_ ≠ gb367∧k_ ≠ gb369) ho0 (fun k_ hk_=>⟨Or.elim hk_ (fun hs_=>Or.elim hs_ (fun hs_=>hs_.1) (fun hs_=>hs_.1)) (fun hn_=>(.inr (Nat.le_trans (below_size bB) hn_))),Or.elim hk_ (fun hs_=>Or.elim hs_ (fun hs_=>hs_.2.2.1) (fun hs_=>hs_.2.1)) (fun hn_=>(Kd.fresh' (Kd.N_lt (nN HO_5.out)) k_ hn_)),Or.elim hk_ (fun hs_=>Or.elim hs_ (fun hs_=>hs_.2.2.2.1) (fun hs_=>hs_.2.2.1)) (fun hn_=>(Kd.fresh' (Kd.N_lt (nN HO_92.out)) k_ hn_)),Or.elim hk_ (fun hs_=>Or.elim hs_ (fun hs_=>hs_.2.2.2.2.1) (fun hs_=>hs_.2.2.2.1)) (fun hn_=>(Kd.fresh' (Kd.N_lt (nN HO_98.out)) k_ hn_)),Or.elim hk_ (fun hs_=>Or.elim hs_ (fun hs_=>hs_.2.2.2.2.2.1) (fun hs_=>hs_.2.2.2.2.1)) (fun hn_=>(Kd.freshB (nB BK317.out) k_ hn_)),Or.elim hk_ (fun hs_=>Or.elim hs_ (fun hs_=>hs_.2.2.2.2.2.2.1) (fun hs_=>hs_.2.2.2.2.2.1)) (fun hn_=>(Kd.freshB (nB BK367.out) k_ hn_)),Or.elim hk_ (fun hs_=>Or.elim hs_ (fun hs_=>hs_.2.2.2.2.2.2.2) (fun hs_=>hs_.2.2.2.2.2.2)) (fun hn_=>(Kd.freshB (nB BK369.out) k_ hn_))⟩)) (below_size bB));have n8_:=aQ (blk_below (nB BK317.out) hb);have n9_:=aQ (blk_below (nB BK367.out) hb);have n11_:=aQ (blk_below (nB BK369.out) hb);have n12_:=aQ (below_step bB hb);clear HO_4;clear HO_5;clear HO_92;clear HO_98;clear HO_318002;clear HO_368003;clear HL368_3;clear BK317;clear BK367;(try clear HR368_3);clear BK369;clear HB;have HO_4:=n0_;have HO_5:=n1_;have HO_92:=n2_;have HO_98:=n3_;have HO_318002:=n4_;have HO_368003:=n5_;have HL368_3:=n6_;have HO374:=n7_;have BK317:=n8_;have BK367:=n9_;have BK369:=n11_;have HB:=n12_;clear n0_ n1_ n2_ n3_ n4_ n5_ n6_ n7_ n8_ n9_ n11_ n12_;(try clear hb);(try clear ho0);obtain ⟨Ao92,co92,eo92⟩:=Kd.N_slice HO374.out;subst eo92) | ((with_reducible refine gate_builtin (b:=.append) (xs:=#[.tmp 115,.tmp 122]) rfl ?_);at_builtin;refine Kd.N_append k44 (w0:=w) w.heap.size rfl (.tmp 115) (.tmp 122) 35 44 (.agg #[(.int .i64 0),(.int .i64 0),(.int .i64 0),(.slice none 0 0)]) 48 rfl Try.underlying35 info44 rfl (by decide) (by omega) u5 x5_4 (⟨0,(⟨t370,t371,t372⟩:S29)⟩:S44) [.int .i64 0,.int .i64 t370,.int .i64 t371,.slice Ao92 t372.length co92] (fun k_=>(P0_2_ k_ ∨ w.heap.size ≤ k_)∧k_ ≠ gb317∧k_ ≠ gb367∧k_ ≠ gb369) (fun k_=>((fun k_=>(P0_2_ k_ ∨ w.heap.size ≤ k_)∧k_ ≠ gb317∧k_ ≠ gb367∧k_ ≠ gb369)) k_∧some k_ ≠ (u5:Value).ownBlock) rfl rfl ?aP (fun _ hk=>hk) ?aF ?aO ?aB ?aS ?aL ?_;(case aP=>exact (k44_mkF _ _ (⟨0,(⟨t370,t371,t372⟩:S29)⟩:S44) (Kd.N_reads' (Kd.N_mono (ok':=(fun k_=>((fun k_=>(P0_2_ k_ ∨ w.heap.size ≤ k_)∧k_ ≠ gb317∧k_ ≠ gb367∧k_ ≠ gb369)) k_∧some k_ ≠ (u5:Value).ownBlock)) (HO374.out) (fun k_ hk=>⟨⟨hk.1,⟨hk.2.2.2.2.1,⟨hk.2.2.2.2.2.1,hk.2.2.2.2.2.2⟩⟩⟩,hk.2.1⟩))).2.1 (Kd.N_F (Kd.N_mono (ok':=(fun k_=>((fun k_=>(P0_2_ k_ ∨ w.heap.size ≤ k_)∧k_ ≠ gb317∧k_ ≠ gb367∧k_ ≠ gb369)) k_∧some k_ ≠ (u5:Value).ownBlock)) (HO374.out) (fun k_ hk=>⟨⟨hk.1,⟨hk.2.2.2.2.1,⟨hk.2.2.2.2.2.1,hk.2.2.2.2.2.2⟩⟩⟩,hk.2.1⟩)))));(case aB=>exact bB);(case aF=>exact (fun k_ hk=>⟨(.inr (Nat.le_trans (below_size bB) hk)),Kd.freshB (nB BK317.out) k_ hk,Kd.freshB (nB BK367.out) k_ hk,Kd.freshB (nB BK369.out) k_ hk⟩));(case aO=>exact (nN (Kd.N_mono HO_5.out (fun _ hk=>⟨hk.1.1,⟨hk.1.2.1,⟨hk.1.2.2.1,hk.1.2.2.2⟩⟩⟩))));(case aS=>exact (below_size bB));(case aL=>have:=LMc82.out;omega);intro v376 w93 ho hb hg hat;rw [← Ny375.out] at ho;have n0_:=aQ (Kd.N_afterv (ok:=(fun k_=>(P0_2_ k_ ∨ w.heap.size ≤ k_)∧some k_ ≠ (.slice (some ad366) t334.length co34:Value).ownBlock∧some k_ ≠ (.slice Ao92 t372.length co92:Value).ownBlock∧k_ ≠ gb317∧k_ ≠ gb367∧k_ ≠ gb369)) (nN (Kd.N_mono HO_4.out (fun _ hk=>⟨⟨hk.1.1,⟨hk.1.2.2.1,⟨hk.2,⟨hk.1.2.2.2.1,⟨hk.1.2.2.2.2.1,hk.1.2.2.2.2.2⟩⟩⟩⟩⟩,hk.1.2.1⟩))) hg hat);have n1_:=aQ (Kd.N_afterv (ok:=(fun k_=>(P0_2_ k_ ∨ w.heap.size ≤ k_)∧some k_ ≠ (.slice (some ad368) t338.length co49:Value).ownBlock∧some k_ ≠ (.slice (some ad368) t338.length co49:Value).ownBlock∧some k_ ≠ (.slice Ao92 t372.length co92:Value).ownBlock∧k_ ≠ gb317∧k_ ≠ gb367∧k_ ≠ gb369)) (nN (Kd.N_mono HO_92.out (fun _ hk=>⟨⟨hk.1.1,⟨hk.1.2.1,⟨hk.1.2.2.2.1,⟨hk.2,⟨hk.1.2.2.2.2.1,⟨hk.1.2.2.2.2.2.1,hk.1.2.2.2.2.2.2⟩⟩⟩⟩⟩⟩,hk.1.2.2.1⟩))) hg hat);have n2_:=aQ (Kd.N_afterv (ok:=(fun k_=>(P0_2_ k_ ∨ w.heap.size ≤ k_)∧some k_ ≠ (.slice (some ad366) t334.length co34:Value).ownBlock∧some k_ ≠ (.slice Ao92 t372.length co92:Value).ownBlock∧k_ ≠ gb317∧k_ ≠ gb367∧k_ ≠ gb369)) (nN (Kd.N_mono HO_98.out (fun _ hk=>⟨⟨hk.1.1,⟨hk.1.2.2.1,⟨hk.2,⟨hk.1.2.2.2.1,⟨hk.1.2.2.2.2.1,hk.1.2.2.2.2.2⟩⟩⟩⟩⟩,hk.1.2.1⟩))) hg hat);have n3_:=aQ (Kd.V_afterv (ok:=(fun k_=>(P0_2_ k_ ∨ w.heap.size ≤ k_)∧some k_ ≠ (.slice (some ad368) t338.length co49:Value).ownBlock∧some k_ ≠ (.slice (some ad366) t334.length co34:Value).ownBlock∧some k_ ≠ (.slice (some ad368) t338.length co49:Value).ownBlock∧some k_ ≠ (.slice Ao92 t372.length co92:Value).ownBlock∧k_ ≠ gb317∧k_ ≠ gb367∧k_ ≠ gb369)) (nV (Kd.V_mono HO_318002.out (fun _ hk=>⟨⟨hk.1.1,⟨hk.1.2.1,⟨hk.1.2.2.2.1,⟨hk.1.2.2.2.2.1,⟨hk.2,⟨hk.1.2.2.2.2.2.1,⟨hk.1.2.2.2.2.2.2.1,hk.1.2.2.2.2.2.2.2⟩⟩⟩⟩⟩⟩⟩,hk.1.2.2.1⟩))) hg hat);have n4_:=aQ (Kd.V_afterv (ok:=(fun k_=>(P0_2_ k_ ∨ w.heap.size ≤ k_)∧some k_ ≠ (.slice (some ad368) t338.length co49:Value).ownBlock∧some k_ ≠ (.slice (some ad366) t334.length co34:Value).ownBlock∧some k_ ≠ (.slice (some ad368) t338.length co49:Value).ownBlock∧some k_ ≠ (.slice Ao92 t372.length co92:Value).ownBlock∧k_ ≠ gb317∧k_ ≠ gb367∧k_ ≠ gb369)) (nV (Kd.V_mono HO_368003.out (fun _ hk=>⟨⟨hk.1.1,⟨hk.1.2.1,⟨hk.1.2.2.2.1,⟨hk.1.2.2.2.2.1,⟨hk.2,⟨hk.1.2.2.2.2.2.1,⟨hk.1.2.2.2.2.2.2.1,hk.1.2.2.2.2.2.2.2⟩⟩⟩⟩⟩⟩⟩,hk.1.2.2.1⟩))) hg hat);have n5_:=aQ (blk_grown (nB BK317.out) hg (Kd.N_ne HO_5.out BK317.out (by decide)));have n6_:=aQ (blk_grown (nB BK367.out) hg (Kd.N_away HO_5.out (fun _ hk=>hk.1.2.2.1)));have n7_:=aQ (Kd.V_afterv (ok:=(fun k_=>(P0_2_ k_ ∨ w.heap.size ≤ k_)∧some k_ ≠ (.slice (some ad366) t334.length co34:Value).ownBlock∧some k_ ≠ (.slice (some ad368) t338.length co49:Value).ownBlock∧some k_ ≠ (.slice Ao92 t372.length co92:Value).ownBlock∧k_ ≠ gb317∧k_ ≠ gb367∧k_ ≠ gb369)) (nV (Kd.V_mono HL368_3.out (fun _ hk=>⟨⟨hk.1.1,⟨hk.1.2.2.1,⟨hk.1.2.2.2.1,⟨hk.2,⟨hk.1.2.2.2.2.1,⟨hk.1.2.2.2.2.2.1,hk.1.2.2.2.2.2.2⟩⟩⟩⟩⟩⟩,hk.1.2.1⟩))) hg hat);have n8_:=aQ (blk_grown (nB BK369.out) hg (Kd.N_away HO_5.out (fun _ hk=>hk.1.2.2.2)));have n9_:=aQ (hb);have n10_:=aQ (ho);clear HO_4;clear HO_92;clear HO_98;clear HO_318002;clear HO_368003;clear BK317;clear BK367;clear HL368_3;clear BK369;clear HB;clear HO_5;clear HO374;have HO_4:=n0_;have HO_92:=n1_;have HO_98:=n2_;have HO_318002:=n3_;have HO_368003:=n4_;have BK317:=n5_;have BK367:=n6_;have HL368_3:=n7_;have BK369:=n8_;have HB:=n9_;have HO377:=n10_;clear n0_ n1_ n2_ n3_ n4_ n5_ n6_ n7_ n8_ n9_ n10_;clear ho hb hg hat))
         go_roundg k4
         case measure=>have:=HK1.out;have:=HK2.out;have:=HK3.out;have:=HK4.out;omega
         case rel=>exact ⟨(y375),(wrap64 (x100_4 + 1)),rfl,H',⟨by have:=HK1.out;have:=HK2.out;have:=HK3.out;have:=HK4.out;omega⟩,⟨nN (Kd.N_mono HO_4.out (fun _ hk=>⟨hk.1.1,⟨hk.2,⟨hk.1.2.1,⟨hk.1.2.2.2.1,hk.1.2.2.2.2.1⟩⟩⟩⟩))⟩,⟨nN (Kd.N_mono HO377.out (fun _ hk=>⟨hk.1,⟨hk.2.1,hk.2.2.1⟩⟩))⟩,⟨nN (Kd.N_mono HO_92.out (fun _ hk=>⟨hk.1.1,⟨hk.1.2.1,⟨hk.2,⟨hk.1.2.2.1,⟨hk.1.2.2.2.2.1,hk.1.2.2.2.2.2.1⟩⟩⟩⟩⟩))⟩,⟨nN (Kd.N_mono HO_98.out (fun _ hk=>⟨hk.1.1,⟨hk.2,⟨hk.1.2.1,⟨hk.1.2.2.2.1,hk.1.2.2.2.2.1⟩⟩⟩⟩))⟩,⟨nV (Kd.V_mono HO_318002.out (fun _ hk=>⟨hk.1.1,⟨hk.1.2.1,⟨hk.2,⟨hk.1.2.2.1,⟨hk.1.2.2.2.1,⟨hk.1.2.2.2.2.2.1,hk.1.2.2.2.2.2.2.1⟩⟩⟩⟩⟩⟩))⟩,⟨nV (Kd.V_mono HO_368003.out (fun _ hk=>⟨hk.1.1,⟨hk.1.2.1,⟨hk.2,⟨hk.1.2.2.1,⟨hk.1.2.2.2.1,⟨hk.1.2.2.2.2.2.1,hk.1.2.2.2.2.2.2.1⟩⟩⟩⟩⟩⟩))⟩,⟨nB BK317.out⟩,⟨nB BK367.out⟩,⟨bB⟩⟩
mutual
def impl_copyClock.l0:Nat → List (S29) → Int → Int → Int → Int → List (S29) → Option (Int × Int × (List (S29)))
 | 0,_,_,_,_,_,_=>none
 | k + 1,x12,x13,x14,x381000,x381001,x381002=>if x14 < x13 then (if 0 ≤ x14 then (if x14 < (x12.length:Int) then ((impl_copyClock.f k ((rd_T29 x12 x14).f0) ((rd_T29 x12 x14).f1) ((rd_T29 x12 x14).f2)).bind fun bt383=>(if x381002.length < 3518437208883 then (impl_copyClock.l0 k x12 x13 (wrap64 (x14 + 1)) x381000 x381001 (x381002 ++ [(⟨bt383.1,bt383.2.1,bt383.2.2⟩:S29)])) else (none))) else (none)) else (none)) else (some (x381000,x381001,x381002))
def impl_copyClock.f:Nat → Int → Int → List (S29) → Option (Int × Int × (List (S29)))
 | 0,_,_,_=>none
 | k + 1,a0_0,a0_1,l0_2=>impl_copyClock.l0 k l0_2 (l0_2.length:Int) 0 a0_0 a0_1 ([]:List (S29))
end
theorem impl_copyClock.mono_l:∀ k,(∀ y0 y1 y2,LeO (impl_copyClock.f k y0 y1 y2) (impl_copyClock.f (k + 1) y0 y1 y2))∧(∀ y0 y1 y2 y3 y4 y5,LeO (impl_copyClock.l0 k y0 y1 y2 y3 y4 y5) (impl_copyClock.l0 (k + 1) y0 y1 y2 y3 y4 y5))
 | 0=>⟨fun _ _ _ r h=>by simp [impl_copyClock.f] at h,fun _ _ _ _ _ _ r h=>by simp [impl_copyClock.l0] at h⟩
 | k + 1=>by
  obtain ⟨ih0,ih1⟩:=impl_copyClock.mono_l k
  refine ⟨?_,?_⟩
  ·intro y0 y1 y2
   unfold impl_copyClock.f
   repeat' first
   | (with_reducible exact ih0 _ _ _)
   | (with_reducible exact ih1 _ _ _ _ _ _)
   | (with_reducible exact LeO.refl _)
   | (with_reducible exact LeO.none _)
   | (with_reducible refine LeO.ite ?_ ?_)
   | (with_reducible refine LeO.bind ?_ (fun _=>?_))
   | exact ih0 _ _ _
   | exact ih1 _ _ _ _ _ _
   | exact LeO.none _
   | refine LeO.ite ?_ ?_
   | refine LeO.bind ?_ (fun _=>?_)
  ·intro y0 y1 y2 y3 y4 y5
   unfold impl_copyClock.l0
   repeat' first
   | (with_reducible exact ih0 _ _ _)
   | (with_reducible exact ih1 _ _ _ _ _ _)
   | (with_reducible exact LeO.refl _)
   | (with_reducible exact LeO.none _)
   | (with_reducible refine LeO.ite ?_ ?_)
   | (with_reducible refine LeO.bind ?_ (fun _=>?_))
   | exact ih0 _ _ _
   | exact ih1 _ _ _ _ _ _
   | exact LeO.none _
   | refine LeO.ite ?_ ?_
   | refine LeO.bind ?_ (fun _=>?_)
theorem impl_copyClock.mono:∀ a0 a1 a2 k,LeO (impl_copyClock.f k a0 a1 a2) (impl_copyClock.f (k + 1) a0 a1 a2):=by
 intro a0 a1 a2 k
 obtain ⟨ih0,ih1⟩:=impl_copyClock.mono_l k
 exact ih0 a0 a1 a2
def impl_copyClock.T5:Bool × List (List Nat × List Nat):=(true,[([],[]),([0],[0]),([],[]),([2],[2]),([3],[3]),([1,4,3],[1,4]),([0,1,2,3,4,5],[]),([6,5,5,0,1,2,3,4,5],[5,6])])
def impl_copyClock.B5:List Nat:=[0,1,0,4,12,31,63,127]
theorem impl_copyClock.tab5:rtab .any (opsOf Try.f48 5) = impl_copyClock.T5:=by kernel_rfl
theorem impl_copyClock.bits5:waitsOk impl_copyClock.T5.2 impl_copyClock.B5 = true:=by kernel_rfl
set_option maxHeartbeats 8000000 in
set_option maxRecDepth 100000 in
theorem impl_copyClock.calls (k:Nat):∀ (a0_0:Int) (a0_1:Int) (A0_2:Option Addr) (c0_2:Nat) (l0_2:List (S29)) (r1:Int) (r2:Int) (r3:List (S29)) (w:World) (hr0_2:Kd.C k29 w A0_2 l0_2.length l0_2) (hc0_2:l0_2.length ≤ c0_2) (h:impl_copyClock.f k a0_0 a0_1 l0_2 = some (r1,r2,r3)),
  Calls Try.prog 48 #[.agg #[.int .i64 a0_0,.int .i64 a0_1,.slice A0_2 l0_2.length c0_2]] w fun e w'=>∃ v2_:Value,e = .returned (.agg #[.int .i64 r1,.int .i64 r2,v2_])∧Kd.N k29 29 w' w.heap.size (fun k_=>(w.heap.size ≤ k_)) v2_ r3∧Below w.heap.size w w':=by
 induction k using Nat.strongRecOn with
 | _ k ih =>
 intro a0_0 a0_1 A0_2 c0_2 l0_2 r1 r2 r3 w hr0_2 hc0_2 h
 cases k with
 | zero=>exact absurd h (by simp [impl_copyClock.f])
 | succ k =>
 simp only [impl_copyClock.f] at h
 have hu29:=Try.underlying29
 have HR0_2:=aQ hr0_2
 have HC0_2:=aQ hc0_2
 clear hr0_2 hc0_2
 have HB:=aQ (Below.refl w.heap.size w)
 have H:=h
 clear h
 have H':=aQ H
 clear H
 go_enter Try.func48,Try.ntmps48
 go_wp2_with (first | ((with_reducible refine gate_dst (N:=1) rfl ?_);refine box1 (N:=1) (cs:=#[.int .i64 a0_0,.int .i64 a0_1,.slice A0_2 l0_2.length c0_2]) (t:=29) ?_;intro gb378 hg w2 hbox hb;have BK378:=aQ (hbox);have GW378:=aQ (gB:w.heap.size ≤ gb378);have GE378:=GW378;replace HB:=aQ (below_step bB hb);clear hb hbox hg) | ((with_reducible refine gate_dst (N:=2) rfl ?_);refine box1 (N:=2) (cs:=#[.int .i64 0,.int .i64 0,.slice none 0 0]) (t:=29) ?_;intro gb379 hg w3 hbox hb;have BK379:=aQ (hbox);have GW379:=aQ (gB:w.heap.size ≤ gb379);have GE379:=GW379;replace HB:=aQ (below_step bB hb);have NB378_379:=aQ ((by rw [hg];exact Nat.ne_of_lt (blk_lt (nB BK378.out)):gb378 ≠ gb379));have NB379_378:=aQ NB378_379.out.symm;replace BK378:=aQ (blk_below (nB BK378.out) hb);clear hb hbox hg;have hnb4:=NB378_379.out;have hnc4:=NB379_378.out;obtain ⟨hcz5_0,hcz5_1,hcz5_2,hfz5_0,hfz5_1,hfz5_2⟩:=cz3 BK378.out) | ((with_reducible refine gate_dst (N:=3) rfl ?_);refine box1 (N:=3) (cs:=#[.int .i64 0,.int .i64 0,.slice none 0 0]) (t:=29) ?_;intro gb380 hg w6 hbox hb;have BK380:=aQ (hbox);have GW380:=aQ (gB:w.heap.size ≤ gb380);have GE380:=GW380;replace HB:=aQ (below_step bB hb);have NB378_380:=aQ ((by rw [hg];exact Nat.ne_of_lt (blk_lt (nB BK378.out)):gb378 ≠ gb380));have NB380_378:=aQ NB378_380.out.symm;replace BK378:=aQ (blk_below (nB BK378.out) hb);have NB379_380:=aQ ((by rw [hg];exact Nat.ne_of_lt (blk_lt (nB BK379.out)):gb379 ≠ gb380));have NB380_379:=aQ NB379_380.out.symm;replace BK379:=aQ (blk_below (nB BK379.out) hb);clear hb hbox hg;have hnb7:=NB380_378.out;have hnc7:=NB378_380.out;have hnb8:=NB380_379.out;have hnc8:=NB379_380.out;obtain ⟨hcz9_0,hcz9_1,hcz9_2,hfz9_0,hfz9_1,hfz9_2⟩:=cz3 BK380.out;obtain ⟨hcz10_0,hcz10_1,hcz10_2,hfz10_0,hfz10_1,hfz10_2⟩:=cz3 BK378.out))
 go_loopg [14] k (fun kq v14 w'=>∃ (x14_1:Int) (x381002_1:List (S29)) (u381002:Value),v14 = .int .i64 x14_1∧Aside0 (impl_copyClock.l0 kq l0_2 (l0_2.length:Int) x14_1 a0_0 a0_1 x381002_1 = some (r1,r2,r3))∧Aside0 (kq ≤ k)∧Aside0 (Kd.N k29 29 w' w.heap.size (fun k_=>(w.heap.size ≤ k_)∧k_ ≠ gb378∧k_ ≠ gb379∧k_ ≠ gb380) u381002 x381002_1)∧Aside0 (w'.heap[gb378]? = some (.cells #[.int .i64 a0_0,.int .i64 a0_1,(.slice A0_2 l0_2.length c0_2)] 29 (0,0)))∧Aside0 (w'.heap[gb379]? = some (.cells #[.int .i64 0,.int .i64 0,(.slice none 0 0)] 29 (0,0)))∧Aside0 (w'.heap[gb380]? = some (.cells #[.int .i64 a0_0,.int .i64 a0_1,u381002] 29 (0,0)))∧Aside0 (Below w.heap.size w w'))
 case atStart=>exact ⟨(0),(([]:List (S29))),(.slice none 0 0),rfl,H',⟨Nat.le_refl _⟩,⟨by first | exact Kd.R_nil _ _ _ _ _ | exact Kd.N_nil _ _ _ _ _ | exact Kd.V_nil _ _ _ _ _ | exact Kd.Q_nil _ _ _ _ _ | exact Kd.S_nil _ _ _ _ _⟩,⟨bF⟩,⟨bF⟩,⟨bP⟩,⟨bB⟩⟩
 case round =>
  clear H'
  try clear hcz10_0
  try clear hcz10_1
  try clear hcz10_2
  try clear hcz5_0
  try clear hcz5_1
  try clear hcz5_2
  try clear hcz9_0
  try clear hcz9_1
  try clear hcz9_2
  try clear hfz10_0
  try clear hfz10_1
  try clear hfz10_2
  try clear hfz5_0
  try clear hfz5_1
  try clear hfz5_2
  try clear hfz9_0
  try clear hfz9_1
  try clear hfz9_2
  repeat (first | clear HO_381002 | clear BK378 | clear BK379 | clear BK380 | clear HB)
  obtain ⟨x14_1,x381002_1,u381002,rfl,HA,HK1,HO_381002,BK378,BK379,BK380,HB⟩:=hrel
  cases gk with
  | zero=>exact absurd HA.out (by simp [impl_copyClock.l0])
  | succ k1 =>
   have H:=HA.out
   clear HA
   simp only [impl_copyClock.l0] at H
   by_cases c11:x14_1 < (l0_2.length:Int);rotate_left
   ·rw [if_neg c11] at H
    have c11b0:decide (x14_1 < (l0_2.length:Int)) = false:=decide_eq_false c11
    clear c11
    simp only [Option.some.injEq,Prod.mk.injEq] at H
    obtain ⟨rfl,rfl,rfl⟩:=H
    have hnb28:=NB380_378.out
    have hnc28:=NB378_380.out
    have hnb29:=NB380_379.out
    have hnc29:=NB379_380.out
    obtain ⟨hcz30_0,hcz30_1,hcz30_2,hfz30_0,hfz30_1,hfz30_2⟩:=cz3 BK380.out
    have hnb31:=NB379_378.out
    have hnc31:=NB378_379.out
    obtain ⟨hcz32_0,hcz32_1,hcz32_2,hfz32_0,hfz32_1,hfz32_2⟩:=cz3 BK379.out
    obtain ⟨Ao33,co33,eo33⟩:=Kd.N_slice HO_381002.out
    subst eo33
    go_wp2
    refine bodyPost_ret (results_cell_row rfl _ _ gb379 29 #[.int .i64 a0_0,.int .i64 a0_1,.slice Ao33 x381002_1.length co33] (0,0) _ rfl bP Try.underlying29 rfl (by kernel_rfl)) rfl ?_
    exact ⟨_,rfl,by (with_reducible repeat (first | apply Kd.N_alloc | apply Kd.N_drewN | apply Kd.N_drew));exact Kd.N_mono (nFN (g:=gb379) HO_381002.out (fun k_ hk=>hk.2.2.1)) (fun _ hk=>hk.1),bB⟩
   rw [if_pos c11] at H
   have c11b0:decide (x14_1 < (l0_2.length:Int)) = true:=decide_eq_true c11
   clear c11
   by_cases c12:0 ≤ x14_1;rotate_left
   ·rw [if_neg c12] at H
    exact absurd H (by simp)
   rw [if_pos c12] at H
   have c12b0:decide (0 ≤ x14_1) = true:=decide_eq_true c12
   clear c12
   by_cases c13:x14_1 < (l0_2.length:Int);rotate_left
   ·rw [if_neg c13] at H
    exact absurd H (by simp)
   rw [if_pos c13] at H
   have c13b0:decide (x14_1 < (l0_2.length:Int)) = true:=decide_eq_true c13
   clear c13
   obtain ⟨⟨t383,t384,t385⟩,A14,H⟩:=bQ H
   dsimp only at H
   by_cases c15:x381002_1.length < 3518437208883;rotate_left
   ·rw [if_neg c15] at H
    exact absurd H (by simp)
   rw [if_pos c15] at H
   have LMc15:=aQ c15
   clear c15
   obtain ⟨y388,hy388⟩:∃ y_:List (S29),y_ = (x381002_1 ++ [(⟨t383,t384,t385⟩:S29)]):=⟨_,rfl⟩
   replace H:(impl_copyClock.l0 k1 l0_2 (l0_2.length:Int) (wrap64 (x14_1 + 1)) a0_0 a0_1 y388) = some (r1,r2,r3):=by rw [hy388];exact H
   have Ny388:=aQ hy388
   clear hy388
   have H':=aQ H
   clear H
   have p381:0 ≤ (x14_1:Int):=of_decide_eq_true (by first | (with_reducible assumption) | assumption)
   have q381:x14_1 < (l0_2.length:Int):=of_decide_eq_true (by first | (with_reducible assumption) | assumption)
   obtain ⟨ad381,A381_2,c381_2,e381,hx381_0,hx381_1,hx381_2,hl381_2,hi381_2⟩:=at_T29 HR0_2.out x14_1 p381 q381
   cases e381
   replace hx381_0:=(HB.out.cell (World.block_lt_of_cell? w _ hx381_0)).trans hx381_0
   replace hx381_1:=(HB.out.cell (World.block_lt_of_cell? w _ hx381_1)).trans hx381_1
   replace hx381_2:=(HB.out.cell (World.block_lt_of_cell? w _ hx381_2)).trans hx381_2
   have HR381_2:=aQ hi381_2
   have HC381_2:=aQ hl381_2
   clear hi381_2 hl381_2
   replace p381:=eq_true p381
   replace q381:=eq_true q381
   try go_wp2_with (first | ((with_reducible refine gate_dst (N:=5) rfl ?_);refine box1 (N:=5) (cs:=#[.int .i64 0,.int .i64 0,.slice none 0 0]) (t:=29) ?_;intro gb382 hg w16 hbox hb;replace HO_381002:=aQ (Kd.N_below (Kd.N_elderB (nN HO_381002.out) gb382 (Nat.le_of_eq hg.symm)) hb);have BK382:=aQ (hbox);have GW382:=aQ (gB:w.heap.size ≤ gb382);have GE382:=GW382;replace HB:=aQ (below_step bB hb);have NB378_382:=aQ ((by rw [hg];exact Nat.ne_of_lt (blk_lt (nB BK378.out)):gb378 ≠ gb382));have NB382_378:=aQ NB378_382.out.symm;replace BK378:=aQ (blk_below (nB BK378.out) hb);have NB379_382:=aQ ((by rw [hg];exact Nat.ne_of_lt (blk_lt (nB BK379.out)):gb379 ≠ gb382));have NB382_379:=aQ NB379_382.out.symm;replace BK379:=aQ (blk_below (nB BK379.out) hb);have NB380_382:=aQ ((by rw [hg];exact Nat.ne_of_lt (blk_lt (nB BK380.out)):gb380 ≠ gb382));have NB382_380:=aQ NB380_382.out.symm;replace BK380:=aQ (blk_below (nB BK380.out) hb);clear hb hbox hg;have hnb17:=NB382_378.out;have hnc17:=NB378_382.out;have hnb18:=NB382_379.out;have hnc18:=NB379_382.out;have hnb19:=NB382_380.out;have hnc19:=NB380_382.out;obtain ⟨hcz20_0,hcz20_1,hcz20_2,hfz20_0,hfz20_1,hfz20_2⟩:=cz3 BK382.out))
   have n0_:Aside0 (Kd.N k29 29 (((w16.setCell ⟨gb382,0,none⟩ (.int .i64 ((rd_T29 l0_2 x14_1).f0))).setCell ⟨gb382,1,none⟩ (.int .i64 ((rd_T29 l0_2 x14_1).f1))).setCell ⟨gb382,2,none⟩ (.slice A381_2 ((rd_T29 l0_2 x14_1).f2).length c381_2)) w.heap.size (fun k_=>(w.heap.size ≤ k_)∧k_ ≠ gb378∧k_ ≠ gb379∧k_ ≠ gb380∧k_ ≠ gb382) u381002 x381002_1):=⟨Kd.N_mono (nFN (g:=gb382) HO_381002.out (fun k_ hk=>hk.2)) (fun _ hk=>⟨hk.1.1,⟨hk.1.2.1,⟨hk.1.2.2.1,⟨hk.1.2.2.2,hk.2⟩⟩⟩⟩)⟩
   have n1_:Aside0 ((((w16.setCell ⟨gb382,0,none⟩ (.int .i64 ((rd_T29 l0_2 x14_1).f0))).setCell ⟨gb382,1,none⟩ (.int .i64 ((rd_T29 l0_2 x14_1).f1))).setCell ⟨gb382,2,none⟩ (.slice A381_2 ((rd_T29 l0_2 x14_1).f2).length c381_2)).heap[gb378]? = some (.cells #[.int .i64 a0_0,.int .i64 a0_1,.slice (some ad381) l0_2.length c0_2] 29 (0,0))):=⟨bF⟩
   have n2_:Aside0 ((((w16.setCell ⟨gb382,0,none⟩ (.int .i64 ((rd_T29 l0_2 x14_1).f0))).setCell ⟨gb382,1,none⟩ (.int .i64 ((rd_T29 l0_2 x14_1).f1))).setCell ⟨gb382,2,none⟩ (.slice A381_2 ((rd_T29 l0_2 x14_1).f2).length c381_2)).heap[gb379]? = some (.cells #[.int .i64 0,.int .i64 0,.slice none 0 0] 29 (0,0))):=⟨bF⟩
   have n3_:Aside0 ((((w16.setCell ⟨gb382,0,none⟩ (.int .i64 ((rd_T29 l0_2 x14_1).f0))).setCell ⟨gb382,1,none⟩ (.int .i64 ((rd_T29 l0_2 x14_1).f1))).setCell ⟨gb382,2,none⟩ (.slice A381_2 ((rd_T29 l0_2 x14_1).f2).length c381_2)).heap[gb380]? = some (.cells #[.int .i64 a0_0,.int .i64 a0_1,u381002] 29 (0,0))):=⟨bF⟩
   have n4_:Aside0 ((((w16.setCell ⟨gb382,0,none⟩ (.int .i64 ((rd_T29 l0_2 x14_1).f0))).setCell ⟨gb382,1,none⟩ (.int .i64 ((rd_T29 l0_2 x14_1).f1))).setCell ⟨gb382,2,none⟩ (.slice A381_2 ((rd_T29 l0_2 x14_1).f2).length c381_2)).heap[gb382]? = some (.cells #[.int .i64 ((rd_T29 l0_2 x14_1).f0),.int .i64 ((rd_T29 l0_2 x14_1).f1),.slice A381_2 ((rd_T29 l0_2 x14_1).f2).length c381_2] 29 (0,0))):=⟨bP⟩
   have n5_:Aside0 (Below w.heap.size w (((w16.setCell ⟨gb382,0,none⟩ (.int .i64 ((rd_T29 l0_2 x14_1).f0))).setCell ⟨gb382,1,none⟩ (.int .i64 ((rd_T29 l0_2 x14_1).f1))).setCell ⟨gb382,2,none⟩ (.slice A381_2 ((rd_T29 l0_2 x14_1).f2).length c381_2))):=⟨bB⟩
   (try clear HO_381002)
   (try clear BK378)
   (try clear BK379)
   (try clear BK380)
   (try clear BK382)
   (try clear HB)
   generalize (((w16.setCell ⟨gb382,0,none⟩ (.int .i64 ((rd_T29 l0_2 x14_1).f0))).setCell ⟨gb382,1,none⟩ (.int .i64 ((rd_T29 l0_2 x14_1).f1))).setCell ⟨gb382,2,none⟩ (.slice A381_2 ((rd_T29 l0_2 x14_1).f2).length c381_2)) = w21 at n0_ n1_ n2_ n3_ n4_ n5_ ⊢
   have HO_381002:=n0_
   have BK378:=n1_
   have BK379:=n2_
   have BK380:=n3_
   have BK382:=n4_
   have HB:=n5_
   clear n0_ n1_ n2_ n3_ n4_ n5_
   replace HO_381002:=aQ (Kd.N_drew HO_381002.out)
   replace BK378:=aQ (blk_drew BK378.out)
   replace BK379:=aQ (blk_drew BK379.out)
   replace BK380:=aQ (blk_drew BK380.out)
   replace BK382:=aQ (blk_drew BK382.out)
   replace HB:=aQ (below_drew1 HB.out)
   refine start_ (n:=8) (S:=fun w'=>w'.cell? ⟨gb380,0,none⟩ = some (.int .i64 a0_0)∧w'.cell? ⟨gb380,1,none⟩ = some (.int .i64 a0_1)∧w'.cell? ⟨gb380,2,none⟩ = some (u381002)∧w'.cell? ⟨gb382,0,none⟩ = some (.int .i64 ((rd_T29 l0_2 x14_1).f0))∧w'.cell? ⟨gb382,1,none⟩ = some (.int .i64 ((rd_T29 l0_2 x14_1).f1))∧w'.cell? ⟨gb382,2,none⟩ = some (.slice A381_2 ((rd_T29 l0_2 x14_1).f2).length c381_2)) (ds:=[7]) #[false,false,false,false,false,false,false,false] (by kernel_rfl) rfl rfl ⟨(blk_cell BK380.out 0).trans rfl,(blk_cell BK380.out 1).trans rfl,(blk_cell BK380.out 2).trans rfl,(blk_cell BK382.out 0).trans rfl,(blk_cell BK382.out 1).trans rfl,(blk_cell BK382.out 2).trans rfl⟩ (fun hHeld=>?_);refine with_tabW impl_copyClock.tab5 impl_copyClock.bits5 (fun HT_ HW_=>?_)
   generalize w21.drew = w22 at HO_381002 BK378 BK379 BK380 BK382 HB hHeld ⊢
   refine pur (i:=0) (N:=some 18) #[true,false,false,false,false,false,false,false] ?_
   refine tak (i:=1) (N:=some 19) #[true,true,false,false,false,false,false,false] ?_
   refine tak (i:=2) (N:=some 20) #[true,true,true,false,false,false,false,false] ?_
   refine one_ (i:=3) (N:=some 21) #[true,true,true,true,false,false,false,false] rfl rfl (one_of HT_.out (by kernel_rfl)) (by decide) (fun K hK=>?_)
   refine goes1 Try.func48 #[.agg #[.int .i64 ((rd_T29 l0_2 x14_1).f0),.int .i64 ((rd_T29 l0_2 x14_1).f1),.slice A381_2 ((rd_T29 l0_2 x14_1).f2).length c381_2]] ?_
   with_reducible refine (ih k1 (by have:=HK1.out;omega) ((rd_T29 l0_2 x14_1).f0) ((rd_T29 l0_2 x14_1).f1) _ _ ((rd_T29 l0_2 x14_1).f2) t383 t384 t385 _ ?side1 ?side2 A14.out).mono ?_
   (case side1=>repeat (first | exact (Kd.C_below HR381_2.out HB.out) | (with_reducible refine Kd.C_alloc ?_ _) | (with_reducible refine Kd.C_drewN ?_ _) | (with_reducible refine Kd.C_drew ?_)))
   (case side2=>exact HC381_2.out)
   rintro e w23 ⟨v386,rfl,ho0,hb⟩
   refine ⟨_,rfl,?_⟩
   have HO387:=aQ (Kd.N_lower (Kd.N_mono (ok':=fun k_=>(w.heap.size ≤ k_)∧some k_ ≠ (u381002:Value).ownBlock∧k_ ≠ gb378∧k_ ≠ gb379∧k_ ≠ gb380∧k_ ≠ gb382) ho0 (fun k_ hk_=>⟨(Nat.le_trans (below_size bB) hk_),(Kd.fresh' (Kd.N_lt (nN HO_381002.out)) k_ hk_),(Kd.freshB (nB BK378.out) k_ hk_),(Kd.freshB (nB BK379.out) k_ hk_),(Kd.freshB (nB BK380.out) k_ hk_),(Kd.freshB (nB BK382.out) k_ hk_)⟩)) (below_size bB))
   replace HO_381002:=aQ (Kd.N_elder' (nN HO_381002.out) (Kd.N_base ho0) hb)
   replace BK378:=aQ (blk_below (nB BK378.out) hb)
   replace BK379:=aQ (blk_below (nB BK379.out) hb)
   replace BK380:=aQ (blk_below (nB BK380.out) hb)
   replace BK382:=aQ (blk_below (nB BK382.out) hb)
   replace HB:=aQ (below_step bB hb)
   (try clear hb)
   (try clear ho0)
   obtain ⟨Ao25,co25,eo25⟩:=Kd.N_slice HO387.out
   (first | subst eo25 | (injection eo25 with f1_ f2_ f3_;have f4_:=f1_.symm;have f5_:=f3_.symm;clear f1_ f2_ f3_;subst f4_;subst f5_))
   refine hK.out _ _ ⟨(blk_cell BK380.out 0).trans rfl,(blk_cell BK380.out 1).trans rfl,(blk_cell BK380.out 2).trans rfl,(blk_cell BK382.out 0).trans rfl,(blk_cell BK382.out 1).trans rfl,(blk_cell BK382.out 2).trans rfl⟩ (fun hHeld=>?_)
   clear hK K
   refine nrm (N:=some 21) ?_
   refine one_ (i:=4) (N:=some 22) #[true,true,true,true,true,false,false,false] rfl rfl (one_of HT_.out (by kernel_rfl)) (by decide) (fun K hK=>?_)
   refine value_ (w1:=?_) (v:=?_) (by rfl) rfl ?_ ?_
   rotate_left 2
   ·go_simp
    constructor
    ·rfl
    ·rfl
   refine hK.out _ _ ⟨(blk_cell (blk_alloc BK380.out _) 0).trans rfl,(blk_cell (blk_alloc BK380.out _) 1).trans rfl,(blk_cell (blk_alloc BK380.out _) 2).trans rfl,(blk_cell (blk_alloc BK382.out _) 0).trans rfl,(blk_cell (blk_alloc BK382.out _) 1).trans rfl,(blk_cell (blk_alloc BK382.out _) 2).trans rfl⟩ (fun hHeld=>?_)
   clear hK K
   refine nrm (N:=some 22) ?_
   refine one_ (i:=5) (N:=some 23) #[true,true,true,true,true,true,false,false] rfl rfl (one_of HT_.out (by kernel_rfl)) (by decide) (fun K hK=>?_)
   refine Kd.N_append_step k29 (w0:=w) w.heap.size (by rfl) (.tmp 19) (.tmp 22) 27 29 (.agg #[(.int .i64 0),(.int .i64 0),(.slice none 0 0)]) 40 rfl Try.underlying27 info29 rfl (by decide) (by omega) u381002 x381002_1 (⟨t383,t384,t385⟩:S29) [.int .i64 t383,.int .i64 t384,.slice Ao25 t385.length co25] (fun k_=>(w.heap.size ≤ k_)∧k_ ≠ gb378∧k_ ≠ gb379∧k_ ≠ gb380∧k_ ≠ gb382) (fun k_=>((fun k_=>(w.heap.size ≤ k_)∧k_ ≠ gb378∧k_ ≠ gb379∧k_ ≠ gb380∧k_ ≠ gb382)) k_∧some k_ ≠ (u381002:Value).ownBlock) rfl rfl ?aP (fun _ hk=>hk) ?aF ?aO ?aB ?aS ?aL ?_
   (case aP=>exact (k29_mkF _ _ (⟨t383,t384,t385⟩:S29) (Kd.N_reads' (Kd.N_mono (ok':=(fun k_=>((fun k_=>(w.heap.size ≤ k_)∧k_ ≠ gb378∧k_ ≠ gb379∧k_ ≠ gb380∧k_ ≠ gb382)) k_∧some k_ ≠ (u381002:Value).ownBlock)) (HO387.out) (fun k_ hk=>⟨⟨hk.1,⟨hk.2.2.1,⟨hk.2.2.2.1,⟨hk.2.2.2.2.1,hk.2.2.2.2.2⟩⟩⟩⟩,hk.2.1⟩))).2.1 (Kd.N_F (Kd.N_mono (ok':=(fun k_=>((fun k_=>(w.heap.size ≤ k_)∧k_ ≠ gb378∧k_ ≠ gb379∧k_ ≠ gb380∧k_ ≠ gb382)) k_∧some k_ ≠ (u381002:Value).ownBlock)) (HO387.out) (fun k_ hk=>⟨⟨hk.1,⟨hk.2.2.1,⟨hk.2.2.2.1,⟨hk.2.2.2.2.1,hk.2.2.2.2.2⟩⟩⟩⟩,hk.2.1⟩)))))
   (case aB=>exact bB)
   (case aF=>exact (fun k_ hk=>⟨(Nat.le_trans (below_size bB) hk),Kd.freshB (nB BK378.out) k_ hk,Kd.freshB (nB BK379.out) k_ hk,Kd.freshB (nB BK380.out) k_ hk,Kd.freshB (nB BK382.out) k_ hk⟩))
   (case aO=>exact (nN (Kd.N_mono HO_381002.out (fun _ hk=>⟨hk.1.1,⟨hk.1.2.1,⟨hk.1.2.2.1,⟨hk.1.2.2.2.1,hk.1.2.2.2.2⟩⟩⟩⟩))))
   (case aS=>exact (below_size bB))
   (case aL=>have:=LMc15.out;omega)
   intro v389 w24 ho hb hg hat
   rw [← Ny388.out] at ho
   have n0_:=aQ (blk_grown (nB BK378.out) hg (Kd.N_away HO_381002.out (fun _ hk=>hk.1.2.1)))
   have n1_:=aQ (blk_grown (nB BK379.out) hg (Kd.N_away HO_381002.out (fun _ hk=>hk.1.2.2.1)))
   have n2_:=aQ (blk_grown (nB BK380.out) hg (Kd.N_away HO_381002.out (fun _ hk=>hk.1.2.2.2.1)))
   have n3_:=aQ (blk_grown (nB BK382.out) hg (Kd.N_away HO_381002.out (fun _ hk=>hk.1.2.2.2.2)))
   have n4_:=aQ (hb)
   have n5_:=aQ (ho)
   clear BK378 BK379 BK380 BK382 HB HO_381002 HO387
   have BK378:=n0_
   have BK379:=n1_
   have BK380:=n2_
   have BK382:=n3_
   have HB:=n4_
   have HO390:=n5_
   clear n0_ n1_ n2_ n3_ n4_ n5_
   clear ho hb hg hat
   obtain ⟨Ao26,co26,eo26⟩:=Kd.N_slice HO390.out
   (first | subst eo26 | (injection eo26 with f1_ f2_ f3_;have f4_:=f1_.symm;have f5_:=f3_.symm;clear f1_ f2_ f3_;subst f4_;subst f5_))
   refine hK.out _ _ ⟨(blk_cell BK380.out 0).trans rfl,(blk_cell BK380.out 1).trans rfl,(blk_cell BK380.out 2).trans rfl,(blk_cell BK382.out 0).trans rfl,(blk_cell BK382.out 1).trans rfl,(blk_cell BK382.out 2).trans rfl⟩ (fun hHeld=>?_)
   clear hK K
   refine nrm (N:=some 23) ?_
   refine pur (i:=6) (N:=some 24) #[true,true,true,true,true,true,true,false] ?_
   refine last_ (i:=7) (N:=none) #[true,true,true,true,true,true,true,true] rfl rfl (one_of HT_.out (by kernel_rfl)) (by decide) (fun K hK=>?_)
   have hs27:w24.cell? ⟨gb380,2,none⟩ = some (u381002):=(blk_cell BK380.out 2).trans rfl
   have hfs27:=blk_frozen BK380.out 2
   have hns27_0:=NB378_380.out
   have hns27_1:=NB379_380.out
   have hns27_3:=NB382_380.out
   have hms27_0:=NB380_378.out
   have hms27_1:=NB380_379.out
   have hms27_3:=NB380_382.out
   refine skip_ (w1:=?_) (by rfl) rfl ?_ ?_
   rotate_left
   ·go_simp
    rfl
   refine hK.out _ _ ?_
   clear hK K
   refine done_ (done_of HT_.out (by kernel_rfl)) ?_
   try go_wp2
   go_roundg k1
   case measure=>have:=HK1.out;omega
   case rel=>exact ⟨(wrap64 (x14_1 + 1)),(y388),(.slice Ao26 y388.length co26),rfl,H',⟨by have:=HK1.out;omega⟩,⟨Kd.N_mono (nFN (g:=gb380) HO390.out (fun k_ hk=>hk.2.2.2.1)) (fun _ hk=>⟨hk.1,⟨hk.2.1,⟨hk.2.2.1,hk.2.2.2.1⟩⟩⟩)⟩,⟨bF⟩,⟨bF⟩,⟨bP⟩,⟨bB⟩⟩
mutual
def spec_l17Copy.l0:Nat → Int → Int → Int → List (S29) → Int → Int → List (S29) → Option (Int × Int × (List (S29)))
 | 0,_,_,_,_,_,_,_=>none
 | k + 1,x4,x426000,x426001,x426002,x428000,x428001,x428002=>if x4 < (x426002.length:Int) then (if 0 ≤ x4 then ((spec_l17Copy.f k ((rd_T29 x426002 x4).f0) ((rd_T29 x426002 x4).f1) ((rd_T29 x426002 x4).f2)).bind fun bt429=>(if x428002.length < 3518437208883 then (spec_l17Copy.l0 k (wrap64 (x4 + 1)) x426000 x426001 x426002 x428000 x428001 (x428002 ++ [(⟨bt429.1,bt429.2.1,bt429.2.2⟩:S29)])) else (none))) else (none)) else (some (x428000,x428001,x428002))
def spec_l17Copy.f:Nat → Int → Int → List (S29) → Option (Int × Int × (List (S29)))
 | 0,_,_,_=>none
 | k + 1,a0_0,a0_1,l0_2=>spec_l17Copy.l0 k 0 a0_0 a0_1 l0_2 a0_0 a0_1 ([]:List (S29))
end
theorem spec_l17Copy.mono_l:∀ k,(∀ y0 y1 y2,LeO (spec_l17Copy.f k y0 y1 y2) (spec_l17Copy.f (k + 1) y0 y1 y2))∧(∀ y0 y1 y2 y3 y4 y5 y6,LeO (spec_l17Copy.l0 k y0 y1 y2 y3 y4 y5 y6) (spec_l17Copy.l0 (k + 1) y0 y1 y2 y3 y4 y5 y6))
 | 0=>⟨fun _ _ _ r h=>by simp [spec_l17Copy.f] at h,fun _ _ _ _ _ _ _ r h=>by simp [spec_l17Copy.l0] at h⟩
 | k + 1=>by
  obtain ⟨ih0,ih1⟩:=spec_l17Copy.mono_l k
  refine ⟨?_,?_⟩
  ·intro y0 y1 y2
   unfold spec_l17Copy.f
   repeat' first
   | (with_reducible exact ih0 _ _ _)
   | (with_reducible exact ih1 _ _ _ _ _ _ _)
   | (with_reducible exact LeO.refl _)
   | (with_reducible exact LeO.none _)
   | (with_reducible refine LeO.ite ?_ ?_)
   | (with_reducible refine LeO.bind ?_ (fun _=>?_))
   | exact ih0 _ _ _
   | exact ih1 _ _ _ _ _ _ _
   | exact LeO.none _
   | refine LeO.ite ?_ ?_
   | refine LeO.bind ?_ (fun _=>?_)
  ·intro y0 y1 y2 y3 y4 y5 y6
   unfold spec_l17Copy.l0
   repeat' first
   | (with_reducible exact ih0 _ _ _)
   | (with_reducible exact ih1 _ _ _ _ _ _ _)
   | (with_reducible exact LeO.refl _)
   | (with_reducible exact LeO.none _)
   | (with_reducible refine LeO.ite ?_ ?_)
   | (with_reducible refine LeO.bind ?_ (fun _=>?_))
   | exact ih0 _ _ _
   | exact ih1 _ _ _ _ _ _ _
   | exact LeO.none _
   | refine LeO.ite ?_ ?_
   | refine LeO.bind ?_ (fun _=>?_)
theorem spec_l17Copy.mono:∀ a0 a1 a2 k,LeO (spec_l17Copy.f k a0 a1 a2) (spec_l17Copy.f (k + 1) a0 a1 a2):=by
 intro a0 a1 a2 k
 obtain ⟨ih0,ih1⟩:=spec_l17Copy.mono_l k
 exact ih0 a0 a1 a2
def spec_l17Copy.T5:Bool × List (List Nat × List Nat):=(true,[([],[]),([0],[0]),([],[]),([2],[2]),([],[]),([3,4],[3,4]),([5],[5]),([6],[6]),([7],[7]),([1,8,7],[1,8]),([0,1,2,3,4,5,6,7,8,9],[]),([10,9,9,0,1,2,3,4,5,6,7,8,9],[9,10])])
def spec_l17Copy.B5:List Nat:=[0,1,0,4,0,28,60,124,252,511,1023,2047]
theorem spec_l17Copy.tab5:rtab .any (opsOf Try.f52 5) = spec_l17Copy.T5:=by kernel_rfl
theorem spec_l17Copy.bits5:waitsOk spec_l17Copy.T5.2 spec_l17Copy.B5 = true:=by kernel_rfl
set_option maxHeartbeats 8000000 in
set_option maxRecDepth 100000 in
theorem spec_l17Copy.calls (k:Nat):∀ (a0_0:Int) (a0_1:Int) (A0_2:Option Addr) (c0_2:Nat) (l0_2:List (S29)) (r1:Int) (r2:Int) (r3:List (S29)) (w:World) (hr0_2:Kd.C k29 w A0_2 l0_2.length l0_2) (hc0_2:l0_2.length ≤ c0_2) (h:spec_l17Copy.f k a0_0 a0_1 l0_2 = some (r1,r2,r3)),
  Calls Try.prog 52 #[.agg #[.int .i64 a0_0,.int .i64 a0_1,.slice A0_2 l0_2.length c0_2]] w fun e w'=>∃ v2_:Value,e = .returned (.agg #[.int .i64 r1,.int .i64 r2,v2_])∧Kd.N k29 29 w' w.heap.size (fun k_=>(w.heap.size ≤ k_)) v2_ r3∧Below w.heap.size w w':=by
 induction k using Nat.strongRecOn with
 | _ k ih =>
 intro a0_0 a0_1 A0_2 c0_2 l0_2 r1 r2 r3 w hr0_2 hc0_2 h
 cases k with
 | zero=>exact absurd h (by simp [spec_l17Copy.f])
 | succ k =>
 simp only [spec_l17Copy.f] at h
 have hu29:=Try.underlying29
 have HR0_2:=aQ hr0_2
 have HC0_2:=aQ hc0_2
 clear hr0_2 hc0_2
 have HB:=aQ (Below.refl w.heap.size w)
 have H:=h
 clear h
 have H':=aQ H
 clear H
 go_enter Try.func52,Try.ntmps52
 go_wp2_with (first | ((with_reducible refine gate_dst (N:=1) rfl ?_);refine box1 (N:=1) (cs:=#[.int .i64 a0_0,.int .i64 a0_1,.slice A0_2 l0_2.length c0_2]) (t:=29) ?_;intro gb425 hg w2 hbox hb;have BK425:=aQ (hbox);have GW425:=aQ (gB:w.heap.size ≤ gb425);have GE425:=GW425;replace HB:=aQ (below_step bB hb);clear hb hbox hg) | ((with_reducible refine gate_dst (N:=2) rfl ?_);refine box1 (N:=2) (cs:=#[.int .i64 0,.int .i64 0,.slice none 0 0]) (t:=29) ?_;intro gb426 hg w3 hbox hb;have BK426:=aQ (hbox);have GW426:=aQ (gB:w.heap.size ≤ gb426);have GE426:=GW426;replace HB:=aQ (below_step bB hb);have NB425_426:=aQ ((by rw [hg];exact Nat.ne_of_lt (blk_lt (nB BK425.out)):gb425 ≠ gb426));have NB426_425:=aQ NB425_426.out.symm;replace BK425:=aQ (blk_below (nB BK425.out) hb);clear hb hbox hg;have hnb4:=NB425_426.out;have hnc4:=NB426_425.out;obtain ⟨hcz5_0,hcz5_1,hcz5_2,hfz5_0,hfz5_1,hfz5_2⟩:=cz3 BK425.out) | ((with_reducible refine gate_dst (N:=3) rfl ?_);refine box1 (N:=3) (cs:=#[.int .i64 0,.int .i64 0,.slice none 0 0]) (t:=29) ?_;intro gb427 hg w6 hbox hb;have BK427:=aQ (hbox);have GW427:=aQ (gB:w.heap.size ≤ gb427);have GE427:=GW427;replace HB:=aQ (below_step bB hb);have NB425_427:=aQ ((by rw [hg];exact Nat.ne_of_lt (blk_lt (nB BK425.out)):gb425 ≠ gb427));have NB427_425:=aQ NB425_427.out.symm;replace BK425:=aQ (blk_below (nB BK425.out) hb);have NB426_427:=aQ ((by rw [hg];exact Nat.ne_of_lt (blk_lt (nB BK426.out)):gb426 ≠ gb427));have NB427_426:=aQ NB426_427.out.symm;replace BK426:=aQ (blk_below (nB BK426.out) hb);clear hb hbox hg;have hnb7:=NB427_425.out;have hnc7:=NB425_427.out;have hnb8:=NB427_426.out;have hnc8:=NB426_427.out;obtain ⟨hcz9_0,hcz9_1,hcz9_2,hfz9_0,hfz9_1,hfz9_2⟩:=cz3 BK427.out))
 go_loopg [4] k (fun kq v4 w'=>∃ (x4_1:Int) (x428002_1:List (S29)) (u428002:Value),v4 = .int .i64 x4_1∧Aside0 (spec_l17Copy.l0 kq x4_1 a0_0 a0_1 l0_2 a0_0 a0_1 x428002_1 = some (r1,r2,r3))∧Aside0 (kq ≤ k)∧Aside0 (Kd.N k29 29 w' w.heap.size (fun k_=>(w.heap.size ≤ k_)∧k_ ≠ gb425∧k_ ≠ gb426∧k_ ≠ gb427) u428002 x428002_1)∧Aside0 (w'.heap[gb425]? = some (.cells #[.int .i64 a0_0,.int .i64 a0_1,(.slice A0_2 l0_2.length c0_2)] 29 (0,0)))∧Aside0 (w'.heap[gb426]? = some (.cells #[.int .i64 0,.int .i64 0,(.slice none 0 0)] 29 (0,0)))∧Aside0 (w'.heap[gb427]? = some (.cells #[.int .i64 a0_0,.int .i64 a0_1,u428002] 29 (0,0)))∧Aside0 (Below w.heap.size w w'))
 case atStart=>exact ⟨(0),(([]:List (S29))),(.slice none 0 0),rfl,H',⟨Nat.le_refl _⟩,⟨by first | exact Kd.R_nil _ _ _ _ _ | exact Kd.N_nil _ _ _ _ _ | exact Kd.V_nil _ _ _ _ _ | exact Kd.Q_nil _ _ _ _ _ | exact Kd.S_nil _ _ _ _ _⟩,⟨bF⟩,⟨bF⟩,⟨bP⟩,⟨bB⟩⟩
 case round =>
  clear H'
  try clear hcz5_0
  try clear hcz5_1
  try clear hcz5_2
  try clear hcz9_0
  try clear hcz9_1
  try clear hcz9_2
  try clear hfz5_0
  try clear hfz5_1
  try clear hfz5_2
  try clear hfz9_0
  try clear hfz9_1
  try clear hfz9_2
  repeat (first | clear HO_428002 | clear BK425 | clear BK426 | clear BK427 | clear HB)
  obtain ⟨x4_1,x428002_1,u428002,rfl,HA,HK1,HO_428002,BK425,BK426,BK427,HB⟩:=hrel
  cases gk with
  | zero=>exact absurd HA.out (by simp [spec_l17Copy.l0])
  | succ k1 =>
   have H:=HA.out
   clear HA
   simp only [spec_l17Copy.l0] at H
   by_cases c10:x4_1 < (l0_2.length:Int);rotate_left
   ·rw [if_neg c10] at H
    have c10b0:decide (x4_1 < (l0_2.length:Int)) = false:=decide_eq_false c10
    clear c10
    simp only [Option.some.injEq,Prod.mk.injEq] at H
    obtain ⟨rfl,rfl,rfl⟩:=H
    have hnb23:=NB425_426.out
    have hnc23:=NB426_425.out
    have hnb24:=NB425_427.out
    have hnc24:=NB427_425.out
    obtain ⟨hcz25_0,hcz25_1,hcz25_2,hfz25_0,hfz25_1,hfz25_2⟩:=cz3 BK425.out
    have hnb26:=NB427_426.out
    have hnc26:=NB426_427.out
    obtain ⟨hcz27_0,hcz27_1,hcz27_2,hfz27_0,hfz27_1,hfz27_2⟩:=cz3 BK427.out
    obtain ⟨hcz28_0,hcz28_1,hcz28_2,hfz28_0,hfz28_1,hfz28_2⟩:=cz3 BK426.out
    obtain ⟨Ao29,co29,eo29⟩:=Kd.N_slice HO_428002.out
    subst eo29
    go_wp2
    refine bodyPost_ret (results_cell_row rfl _ _ gb426 29 #[.int .i64 a0_0,.int .i64 a0_1,.slice Ao29 x428002_1.length co29] (0,0) _ rfl bP Try.underlying29 rfl (by kernel_rfl)) rfl ?_
    exact ⟨_,rfl,by (with_reducible repeat (first | apply Kd.N_alloc | apply Kd.N_drewN | apply Kd.N_drew));exact Kd.N_mono (nFN (g:=gb426) HO_428002.out (fun k_ hk=>hk.2.2.1)) (fun _ hk=>hk.1),bB⟩
   rw [if_pos c10] at H
   have c10b0:decide (x4_1 < (l0_2.length:Int)) = true:=decide_eq_true c10
   clear c10
   by_cases c11:0 ≤ x4_1;rotate_left
   ·rw [if_neg c11] at H
    exact absurd H (by simp)
   rw [if_pos c11] at H
   have c11b0:decide (0 ≤ x4_1) = true:=decide_eq_true c11
   clear c11
   obtain ⟨⟨t429,t430,t431⟩,A12,H⟩:=bQ H
   dsimp only at H
   by_cases c13:x428002_1.length < 3518437208883;rotate_left
   ·rw [if_neg c13] at H
    exact absurd H (by simp)
   rw [if_pos c13] at H
   have LMc13:=aQ c13
   clear c13
   obtain ⟨y434,hy434⟩:∃ y_:List (S29),y_ = (x428002_1 ++ [(⟨t429,t430,t431⟩:S29)]):=⟨_,rfl⟩
   replace H:(spec_l17Copy.l0 k1 (wrap64 (x4_1 + 1)) a0_0 a0_1 l0_2 a0_0 a0_1 y434) = some (r1,r2,r3):=by rw [hy434];exact H
   have Ny434:=aQ hy434
   clear hy434
   have H':=aQ H
   clear H
   have hnb14:=NB425_426.out
   have hnc14:=NB426_425.out
   have hnb15:=NB425_427.out
   have hnc15:=NB427_425.out
   obtain ⟨hcz16_0,hcz16_1,hcz16_2,hfz16_0,hfz16_1,hfz16_2⟩:=cz3 BK425.out
   try go_wp2
   replace HO_428002:=aQ (Kd.N_drew HO_428002.out)
   replace BK425:=aQ (blk_drew BK425.out)
   replace BK426:=aQ (blk_drew BK426.out)
   replace BK427:=aQ (blk_drew BK427.out)
   replace HB:=aQ (below_drew1 HB.out)
   have p428:0 ≤ (x4_1:Int):=of_decide_eq_true (by first | (with_reducible assumption) | assumption)
   have q428:x4_1 < (l0_2.length:Int):=of_decide_eq_true (by first | (with_reducible assumption) | assumption)
   obtain ⟨ad428,A428_2,c428_2,e428,hx428_0,hx428_1,hx428_2,hl428_2,hi428_2⟩:=at_T29 HR0_2.out x4_1 p428 q428
   have hw428_2:=hx428_2
   have hw428_1:=hx428_1
   have hw428_0:=hx428_0
   cases e428
   replace hx428_0:=(HB.out.cell (World.block_lt_of_cell? w _ hx428_0)).trans hx428_0
   replace hx428_1:=(HB.out.cell (World.block_lt_of_cell? w _ hx428_1)).trans hx428_1
   replace hx428_2:=(HB.out.cell (World.block_lt_of_cell? w _ hx428_2)).trans hx428_2
   have HR428_2:=aQ hi428_2
   have HC428_2:=aQ hl428_2
   clear hi428_2 hl428_2
   replace p428:=eq_true p428
   replace q428:=eq_true q428
   refine start_ (n:=12) (S:=fun w'=>w'.cell? ⟨gb427,0,none⟩ = some (.int .i64 a0_0)∧w'.cell? ⟨gb427,1,none⟩ = some (.int .i64 a0_1)∧w'.cell? ⟨gb427,2,none⟩ = some (u428002)∧w'.cell? ⟨gb425,0,none⟩ = some (.int .i64 a0_0)∧w'.cell? ⟨gb425,1,none⟩ = some (.int .i64 a0_1)∧w'.cell? ⟨gb425,2,none⟩ = some (.slice (some ad428) l0_2.length c0_2)∧w'.cell? (ad428.add ((x4_1).toNat * 3)) = some (.int .i64 ((rd_T29 l0_2 x4_1).f0))∧w'.cell? ⟨(ad428.add ((x4_1).toNat * 3)).block,(ad428.add ((x4_1).toNat * 3)).off + 1,none⟩ = some (.int .i64 ((rd_T29 l0_2 x4_1).f1))∧w'.cell? ⟨(ad428.add ((x4_1).toNat * 3)).block,(ad428.add ((x4_1).toNat * 3)).off + 2,none⟩ = some (.slice A428_2 ((rd_T29 l0_2 x4_1).f2).length c428_2)) (ds:=[11]) #[false,false,false,false,false,false,false,false,false,false,false,false] (by kernel_rfl) rfl rfl ⟨(blk_cell BK427.out 0).trans rfl,(blk_cell BK427.out 1).trans rfl,(blk_cell BK427.out 2).trans rfl,(blk_cell BK425.out 0).trans rfl,(blk_cell BK425.out 1).trans rfl,(blk_cell BK425.out 2).trans rfl,((HB.out.cell (World.block_lt_of_cell? w _ hw428_0)).trans hw428_0),((HB.out.cell (World.block_lt_of_cell? w _ hw428_1)).trans hw428_1),((HB.out.cell (World.block_lt_of_cell? w _ hw428_2)).trans hw428_2)⟩ (fun hHeld=>?_);refine with_tabW spec_l17Copy.tab5 spec_l17Copy.bits5 (fun HT_ HW_=>?_)
   generalize wr.drew = w17 at HO_428002 BK425 BK426 BK427 HB HR428_2 hx428_0 hx428_1 hx428_2 hHeld ⊢
   refine pur (i:=0) (N:=some 17) #[true,false,false,false,false,false,false,false,false,false,false,false] ?_
   refine pur (i:=2) (N:=some 19) #[true,false,true,false,false,false,false,false,false,false,false,false] ?_
   refine pur (i:=4) (N:=some 21) #[true,false,true,false,true,false,false,false,false,false,false,false] ?_
   refine tak (i:=1) (N:=some 18) #[true,true,true,false,true,false,false,false,false,false,false,false] ?_
   refine tak (i:=3) (N:=some 20) #[true,true,true,true,true,false,false,false,false,false,false,false] ?_
   refine pur (i:=5) (N:=some 22) #[true,true,true,true,true,true,false,false,false,false,false,false] ?_
   refine tak (i:=6) (N:=some 23) #[true,true,true,true,true,true,true,false,false,false,false,false] ?_
   refine one_ (i:=7) (N:=some 24) #[true,true,true,true,true,true,true,true,false,false,false,false] rfl rfl (one_of HT_.out (by kernel_rfl)) (by decide) (fun K hK=>?_)
   refine goes1 Try.func52 #[.agg #[.int .i64 ((rd_T29 l0_2 x4_1).f0),.int .i64 ((rd_T29 l0_2 x4_1).f1),.slice A428_2 ((rd_T29 l0_2 x4_1).f2).length c428_2]] ?_
   with_reducible refine (ih k1 (by have:=HK1.out;omega) ((rd_T29 l0_2 x4_1).f0) ((rd_T29 l0_2 x4_1).f1) _ _ ((rd_T29 l0_2 x4_1).f2) t429 t430 t431 _ ?side1 ?side2 A12.out).mono ?_
   (case side1=>repeat (first | exact (Kd.C_below HR428_2.out HB.out) | (with_reducible refine Kd.C_alloc ?_ _) | (with_reducible refine Kd.C_drewN ?_ _) | (with_reducible refine Kd.C_drew ?_)))
   (case side2=>exact HC428_2.out)
   rintro e w18 ⟨v432,rfl,ho0,hb⟩
   refine ⟨_,rfl,?_⟩
   have HO433:=aQ (Kd.N_lower (Kd.N_mono (ok':=fun k_=>(w.heap.size ≤ k_)∧some k_ ≠ (u428002:Value).ownBlock∧k_ ≠ gb425∧k_ ≠ gb426∧k_ ≠ gb427) ho0 (fun k_ hk_=>⟨(Nat.le_trans (below_size bB) hk_),(Kd.fresh' (Kd.N_lt (nN HO_428002.out)) k_ hk_),(Kd.freshB (nB BK425.out) k_ hk_),(Kd.freshB (nB BK426.out) k_ hk_),(Kd.freshB (nB BK427.out) k_ hk_)⟩)) (below_size bB))
   replace HO_428002:=aQ (Kd.N_elder' (nN HO_428002.out) (Kd.N_base ho0) hb)
   replace BK425:=aQ (blk_below (nB BK425.out) hb)
   replace BK426:=aQ (blk_below (nB BK426.out) hb)
   replace BK427:=aQ (blk_below (nB BK427.out) hb)
   replace HB:=aQ (below_step bB hb)
   (try clear hb)
   (try clear ho0)
   obtain ⟨Ao20,co20,eo20⟩:=Kd.N_slice HO433.out
   (first | subst eo20 | (injection eo20 with f1_ f2_ f3_;have f4_:=f1_.symm;have f5_:=f3_.symm;clear f1_ f2_ f3_;subst f4_;subst f5_))
   refine hK.out _ _ ⟨(blk_cell BK427.out 0).trans rfl,(blk_cell BK427.out 1).trans rfl,(blk_cell BK427.out 2).trans rfl,(blk_cell BK425.out 0).trans rfl,(blk_cell BK425.out 1).trans rfl,(blk_cell BK425.out 2).trans rfl,((HB.out.cell (World.block_lt_of_cell? w _ hw428_0)).trans hw428_0),((HB.out.cell (World.block_lt_of_cell? w _ hw428_1)).trans hw428_1),((HB.out.cell (World.block_lt_of_cell? w _ hw428_2)).trans hw428_2)⟩ (fun hHeld=>?_)
   clear hK K
   refine nrm (N:=some 24) ?_
   refine one_ (i:=8) (N:=some 25) #[true,true,true,true,true,true,true,true,true,false,false,false] rfl rfl (one_of HT_.out (by kernel_rfl)) (by decide) (fun K hK=>?_)
   refine value_ (w1:=?_) (v:=?_) (by rfl) rfl ?_ ?_
   rotate_left 2
   ·go_simp
    constructor
    ·rfl
    ·rfl
   refine hK.out _ _ ⟨(blk_cell (blk_alloc BK427.out _) 0).trans rfl,(blk_cell (blk_alloc BK427.out _) 1).trans rfl,(blk_cell (blk_alloc BK427.out _) 2).trans rfl,(blk_cell (blk_alloc BK425.out _) 0).trans rfl,(blk_cell (blk_alloc BK425.out _) 1).trans rfl,(blk_cell (blk_alloc BK425.out _) 2).trans rfl,(World.cell?_alloc_lt _ _ _ (World.block_lt_of_cell? _ _ (((HB.out.cell (World.block_lt_of_cell? w _ hw428_0)).trans hw428_0)))).trans (((HB.out.cell (World.block_lt_of_cell? w _ hw428_0)).trans hw428_0)),(World.cell?_alloc_lt _ _ _ (World.block_lt_of_cell? _ _ (((HB.out.cell (World.block_lt_of_cell? w _ hw428_1)).trans hw428_1)))).trans (((HB.out.cell (World.block_lt_of_cell? w _ hw428_1)).trans hw428_1)),(World.cell?_alloc_lt _ _ _ (World.block_lt_of_cell? _ _ (((HB.out.cell (World.block_lt_of_cell? w _ hw428_2)).trans hw428_2)))).trans (((HB.out.cell (World.block_lt_of_cell? w _ hw428_2)).trans hw428_2))⟩ (fun hHeld=>?_)
   clear hK K
   refine nrm (N:=some 25) ?_
   refine one_ (i:=9) (N:=some 26) #[true,true,true,true,true,true,true,true,true,true,false,false] rfl rfl (one_of HT_.out (by kernel_rfl)) (by decide) (fun K hK=>?_)
   refine Kd.N_append_step k29 (w0:=w) w.heap.size (by rfl) (.tmp 18) (.tmp 25) 27 29 (.agg #[(.int .i64 0),(.int .i64 0),(.slice none 0 0)]) 40 rfl Try.underlying27 info29 rfl (by decide) (by omega) u428002 x428002_1 (⟨t429,t430,t431⟩:S29) [.int .i64 t429,.int .i64 t430,.slice Ao20 t431.length co20] (fun k_=>(w.heap.size ≤ k_)∧k_ ≠ gb425∧k_ ≠ gb426∧k_ ≠ gb427) (fun k_=>((fun k_=>(w.heap.size ≤ k_)∧k_ ≠ gb425∧k_ ≠ gb426∧k_ ≠ gb427)) k_∧some k_ ≠ (u428002:Value).ownBlock) rfl rfl ?aP (fun _ hk=>hk) ?aF ?aO ?aB ?aS ?aL ?_
   (case aP=>exact (k29_mkF _ _ (⟨t429,t430,t431⟩:S29) (Kd.N_reads' (Kd.N_mono (ok':=(fun k_=>((fun k_=>(w.heap.size ≤ k_)∧k_ ≠ gb425∧k_ ≠ gb426∧k_ ≠ gb427)) k_∧some k_ ≠ (u428002:Value).ownBlock)) (HO433.out) (fun k_ hk=>⟨⟨hk.1,⟨hk.2.2.1,⟨hk.2.2.2.1,hk.2.2.2.2⟩⟩⟩,hk.2.1⟩))).2.1 (Kd.N_F (Kd.N_mono (ok':=(fun k_=>((fun k_=>(w.heap.size ≤ k_)∧k_ ≠ gb425∧k_ ≠ gb426∧k_ ≠ gb427)) k_∧some k_ ≠ (u428002:Value).ownBlock)) (HO433.out) (fun k_ hk=>⟨⟨hk.1,⟨hk.2.2.1,⟨hk.2.2.2.1,hk.2.2.2.2⟩⟩⟩,hk.2.1⟩)))))
   (case aB=>exact bB)
   (case aF=>exact (fun k_ hk=>⟨(Nat.le_trans (below_size bB) hk),Kd.freshB (nB BK425.out) k_ hk,Kd.freshB (nB BK426.out) k_ hk,Kd.freshB (nB BK427.out) k_ hk⟩))
   (case aO=>exact (nN (Kd.N_mono HO_428002.out (fun _ hk=>⟨hk.1.1,⟨hk.1.2.1,⟨hk.1.2.2.1,hk.1.2.2.2⟩⟩⟩))))
   (case aS=>exact (below_size bB))
   (case aL=>have:=LMc13.out;omega)
   intro v435 w19 ho hb hg hat
   rw [← Ny434.out] at ho
   have n0_:=aQ (blk_grown (nB BK425.out) hg (Kd.N_away HO_428002.out (fun _ hk=>hk.1.2.1)))
   have n1_:=aQ (blk_grown (nB BK426.out) hg (Kd.N_away HO_428002.out (fun _ hk=>hk.1.2.2.1)))
   have n2_:=aQ (blk_grown (nB BK427.out) hg (Kd.N_away HO_428002.out (fun _ hk=>hk.1.2.2.2)))
   have n3_:=aQ (hb)
   have n4_:=aQ (ho)
   clear BK425 BK426 BK427 HB HO_428002 HO433
   have BK425:=n0_
   have BK426:=n1_
   have BK427:=n2_
   have HB:=n3_
   have HO436:=n4_
   clear n0_ n1_ n2_ n3_ n4_
   clear ho hb hg hat
   obtain ⟨Ao21,co21,eo21⟩:=Kd.N_slice HO436.out
   (first | subst eo21 | (injection eo21 with f1_ f2_ f3_;have f4_:=f1_.symm;have f5_:=f3_.symm;clear f1_ f2_ f3_;subst f4_;subst f5_))
   refine hK.out _ _ ⟨(blk_cell BK427.out 0).trans rfl,(blk_cell BK427.out 1).trans rfl,(blk_cell BK427.out 2).trans rfl,(blk_cell BK425.out 0).trans rfl,(blk_cell BK425.out 1).trans rfl,(blk_cell BK425.out 2).trans rfl,((HB.out.cell (World.block_lt_of_cell? w _ hw428_0)).trans hw428_0),((HB.out.cell (World.block_lt_of_cell? w _ hw428_1)).trans hw428_1),((HB.out.cell (World.block_lt_of_cell? w _ hw428_2)).trans hw428_2)⟩ (fun hHeld=>?_)
   clear hK K
   refine nrm (N:=some 26) ?_
   refine pur (i:=10) (N:=some 27) #[true,true,true,true,true,true,true,true,true,true,true,false] ?_
   refine last_ (i:=11) (N:=none) #[true,true,true,true,true,true,true,true,true,true,true,true] rfl rfl (one_of HT_.out (by kernel_rfl)) (by decide) (fun K hK=>?_)
   have hs22:w19.cell? ⟨gb427,2,none⟩ = some (u428002):=(blk_cell BK427.out 2).trans rfl
   have hfs22:=blk_frozen BK427.out 2
   have hns22_0:=NB425_427.out
   have hns22_1:=NB426_427.out
   have hms22_0:=NB427_425.out
   have hms22_1:=NB427_426.out
   refine skip_ (w1:=?_) (by rfl) rfl ?_ ?_
   rotate_left
   ·go_simp
    rfl
   refine hK.out _ _ ?_
   clear hK K
   refine done_ (done_of HT_.out (by kernel_rfl)) ?_
   try go_wp2
   go_roundg k1
   case measure=>have:=HK1.out;omega
   case rel=>exact ⟨(wrap64 (x4_1 + 1)),(y434),(.slice Ao21 y434.length co21),rfl,H',⟨by have:=HK1.out;omega⟩,⟨Kd.N_mono (nFN (g:=gb427) HO436.out (fun k_ hk=>hk.2.2.2)) (fun _ hk=>⟨hk.1,⟨hk.2.1,⟨hk.2.2.1,hk.2.2.2⟩⟩⟩)⟩,⟨bF⟩,⟨bF⟩,⟨bP⟩,⟨bB⟩⟩
def spec_l17Two.f (a0:Int) (a1_0:Int) (a1_1:Int) (l1_2:List (S29)) (a2_0:Int) (a2_1:Int) (l2_2:List (S29)):Option (Int × Int × (List (S29))):=some (a0,0,(([(⟨a1_0,a1_1,l1_2⟩:S29),(⟨a2_0,a2_1,l2_2⟩:S29)]:List (S29))))
set_option maxHeartbeats 8000000 in
set_option maxRecDepth 100000 in
theorem spec_l17Two.calls (a0:Int) (a1_0:Int) (a1_1:Int) (P1_2_:Nat → Prop) (A1_2:Option Addr) (c1_2:Nat) (l1_2:List (S29)) (a2_0:Int) (a2_1:Int) (P2_2_:Nat → Prop) (A2_2:Option Addr) (c2_2:Nat) (l2_2:List (S29)) (r1:Int) (r2:Int) (r3:List (S29)) (w:World) (hs1_2:Kd.V k29 29 w w.heap.size (fun k_=>P1_2_ k_) (.slice A1_2 l1_2.length c1_2) l1_2) (hs2_2:Kd.V k29 29 w w.heap.size (fun k_=>P2_2_ k_) (.slice A2_2 l2_2.length c2_2) l2_2) (h:spec_l17Two.f a0 a1_0 a1_1 l1_2 a2_0 a2_1 l2_2 = some (r1,r2,r3)) :
  Calls Try.prog 66 #[.int .i64 a0,.agg #[.int .i64 a1_0,.int .i64 a1_1,.slice A1_2 l1_2.length c1_2],.agg #[.int .i64 a2_0,.int .i64 a2_1,.slice A2_2 l2_2.length c2_2]] w fun e w'=>∃ v2_:Value,e = .returned (.agg #[.int .i64 r1,.int .i64 r2,v2_])∧Kd.N k29 29 w' w.heap.size (fun k_=>((P1_2_ k_ ∨ P2_2_ k_) ∨ w.heap.size ≤ k_)) v2_ r3∧Below w.heap.size w w':=by
 have hu29:=Try.underlying29
 have HO1_2:=aQ (show Kd.V k29 29 w w.heap.size (fun k_=>((P1_2_ k_ ∨ P2_2_ k_) ∨ w.heap.size ≤ k_)) (.slice A1_2 l1_2.length c1_2) l1_2 from Kd.V_mono hs1_2 (fun k_ hk=>.inl (.inl hk)))
 have HO2_2:=aQ (show Kd.V k29 29 w w.heap.size (fun k_=>((P1_2_ k_ ∨ P2_2_ k_) ∨ w.heap.size ≤ k_)) (.slice A2_2 l2_2.length c2_2) l2_2 from Kd.V_mono hs2_2 (fun k_ hk=>.inl (.inr hk)))
 have HB:=aQ (Below.refl w.heap.size w)
 have H:=h
 clear h
 obtain ⟨y440,hy440⟩:∃ y_:List (S29),y_ = (([(⟨a1_0,a1_1,l1_2⟩:S29),(⟨a2_0,a2_1,l2_2⟩:S29)]:List (S29))):=⟨_,rfl⟩
 replace H:(some (a0,0,y440)) = some (r1,r2,r3):=by rw [hy440];exact H
 have Ny440:=aQ hy440
 clear hy440
 simp only [Option.some.injEq,Prod.mk.injEq] at H
 obtain ⟨rfl,rfl,rfl⟩:=H
 go_enter Try.func66,Try.ntmps66
 go_wp2_with (first | ((with_reducible refine gate_dst (N:=4) rfl ?_);refine box1 (N:=4) (cs:=#[.int .i64 a1_0,.int .i64 a1_1,.slice A1_2 l1_2.length c1_2]) (t:=29) ?_;intro gb437 hg w4 hbox hb;replace HO1_2:=aQ (Kd.V_below (Kd.V_elderB (nV HO1_2.out) gb437 (Nat.le_of_eq hg.symm)) hb);replace HO2_2:=aQ (Kd.V_below (Kd.V_elderB (nV HO2_2.out) gb437 (Nat.le_of_eq hg.symm)) hb);have BK437:=aQ (hbox);have GW437:=aQ (gB:w.heap.size ≤ gb437);have GE437:=GW437;replace HB:=aQ (below_step bB hb);clear hb hbox hg) | ((with_reducible refine gate_dst (N:=5) rfl ?_);refine box1 (N:=5) (cs:=#[.int .i64 a2_0,.int .i64 a2_1,.slice A2_2 l2_2.length c2_2]) (t:=29) ?_;intro gb438 hg w5 hbox hb;replace HO1_2:=aQ (Kd.V_below (Kd.V_elderB (nV HO1_2.out) gb438 (Nat.le_of_eq hg.symm)) hb);replace HO2_2:=aQ (Kd.V_below (Kd.V_elderB (nV HO2_2.out) gb438 (Nat.le_of_eq hg.symm)) hb);have BK438:=aQ (hbox);have GW438:=aQ (gB:w.heap.size ≤ gb438);have GE438:=GW438;replace HB:=aQ (below_step bB hb);have NB437_438:=aQ ((by rw [hg];exact Nat.ne_of_lt (blk_lt (nB BK437.out)):gb437 ≠ gb438));have NB438_437:=aQ NB437_438.out.symm;replace BK437:=aQ (blk_below (nB BK437.out) hb);clear hb hbox hg) | ((with_reducible refine gate_dst (N:=6) rfl ?_);refine box1 (N:=6) (cs:=#[.int .i64 0,.int .i64 0,.slice none 0 0]) (t:=29) ?_;intro gb439 hg w6 hbox hb;replace HO1_2:=aQ (Kd.V_below (Kd.V_elderB (nV HO1_2.out) gb439 (Nat.le_of_eq hg.symm)) hb);replace HO2_2:=aQ (Kd.V_below (Kd.V_elderB (nV HO2_2.out) gb439 (Nat.le_of_eq hg.symm)) hb);have BK439:=aQ (hbox);have GW439:=aQ (gB:w.heap.size ≤ gb439);have GE439:=GW439;replace HB:=aQ (below_step bB hb);have NB437_439:=aQ ((by rw [hg];exact Nat.ne_of_lt (blk_lt (nB BK437.out)):gb437 ≠ gb439));have NB439_437:=aQ NB437_439.out.symm;replace BK437:=aQ (blk_below (nB BK437.out) hb);have NB438_439:=aQ ((by rw [hg];exact Nat.ne_of_lt (blk_lt (nB BK438.out)):gb438 ≠ gb439));have NB439_438:=aQ NB438_439.out.symm;replace BK438:=aQ (blk_below (nB BK438.out) hb);clear hb hbox hg;have hnb7:=NB437_438.out;have hnc7:=NB438_437.out;have hnb8:=NB437_439.out;have hnc8:=NB439_437.out;obtain ⟨hcz9_0,hcz9_1,hcz9_2,hfz9_0,hfz9_1,hfz9_2⟩:=cz3 BK437.out;have hnb10:=NB438_439.out;have hnc10:=NB439_438.out;obtain ⟨hcz11_0,hcz11_1,hcz11_2,hfz11_0,hfz11_1,hfz11_2⟩:=cz3 BK438.out) | ((with_reducible refine gate_dst (N:=10) rfl ?_);refine Kd.N_lit k29 _ 29 ?hg (N':=10) ?hd (xs:=([(⟨a1_0,a1_1,l1_2⟩:S29),(⟨a2_0,a2_1,l2_2⟩:S29)]:List (S29))) (inner:=[.int .i64 a1_0,.int .i64 a1_1,.slice A1_2 l1_2.length c1_2,.int .i64 a2_0,.int .i64 a2_1,.slice A2_2 l2_2.length c2_2]) (ok:=(fun k_=>((P1_2_ k_ ∨ P2_2_ k_) ∨ w.heap.size ≤ k_)∧k_ ≠ gb437∧k_ ≠ gb438∧k_ ≠ gb439)) (okp:=(fun k_=>((P1_2_ k_ ∨ P2_2_ k_) ∨ w.heap.size ≤ k_)∧k_ ≠ gb437∧k_ ≠ gb438∧k_ ≠ gb439)) ?hr ?hp (fun _ hk=>hk) ((show ∀ k_,w6.heap.size ≤ k_ → (fun k_=>((P1_2_ k_ ∨ P2_2_ k_) ∨ w.heap.size ≤ k_)∧k_ ≠ gb437∧k_ ≠ gb438∧k_ ≠ gb439) k_ from fun k_ hk=>⟨(.inr (Nat.le_trans (below_size bB) hk)),Kd.freshB (nB BK437.out) k_ hk,Kd.freshB (nB BK438.out) k_ hk,Kd.freshB (nB BK439.out) k_ hk⟩) _ (Nat.le_refl _)) (Below.refl _ _) (Nat.le_refl _) (by simp) ?_;(case hd=>rfl);(case hg=>rfl);(case hr=>first | (go_simp;done) | (go_simp;rfl));(case hp=>exact (Reps.c3 (show Kd.FK k29 _ _ (⟨a1_0,a1_1,l1_2⟩:S29) [.int .i64 a1_0,.int .i64 a1_1,.slice A1_2 l1_2.length c1_2] from (k29_mkF _ _ (⟨a1_0,a1_1,l1_2⟩:S29) (Kd.V_reads' (Kd.V_mono (ok':=(fun k_=>((P1_2_ k_ ∨ P2_2_ k_) ∨ w.heap.size ≤ k_)∧k_ ≠ gb437∧k_ ≠ gb438∧k_ ≠ gb439)) (HO1_2.out) (fun k_ hk=>⟨hk.1.1.1,⟨hk.1.1.2,⟨hk.1.2,hk.2⟩⟩⟩))).2.1 (Kd.V_F (Kd.V_mono (ok':=(fun k_=>((P1_2_ k_ ∨ P2_2_ k_) ∨ w.heap.size ≤ k_)∧k_ ≠ gb437∧k_ ≠ gb438∧k_ ≠ gb439)) (HO1_2.out) (fun k_ hk=>⟨hk.1.1.1,⟨hk.1.1.2,⟨hk.1.2,hk.2⟩⟩⟩))))) (Reps.c3 (show Kd.FK k29 _ _ (⟨a2_0,a2_1,l2_2⟩:S29) [.int .i64 a2_0,.int .i64 a2_1,.slice A2_2 l2_2.length c2_2] from (k29_mkF _ _ (⟨a2_0,a2_1,l2_2⟩:S29) (Kd.V_reads' (Kd.V_mono (ok':=(fun k_=>((P1_2_ k_ ∨ P2_2_ k_) ∨ w.heap.size ≤ k_)∧k_ ≠ gb437∧k_ ≠ gb438∧k_ ≠ gb439)) (HO2_2.out) (fun k_ hk=>⟨hk.1.1.1,⟨hk.1.1.2,⟨hk.1.2,hk.2⟩⟩⟩))).2.1 (Kd.V_F (Kd.V_mono (ok':=(fun k_=>((P1_2_ k_ ∨ P2_2_ k_) ∨ w.heap.size ≤ k_)∧k_ ≠ gb437∧k_ ≠ gb438∧k_ ≠ gb439)) (HO2_2.out) (fun k_ hk=>⟨hk.1.1.1,⟨hk.1.1.2,⟨hk.1.2,hk.2⟩⟩⟩))))) (Reps.none _ _))));intro v441 w12 ho13 hb hg_ hnew_;clear hg_ hnew_;(first | rw [← Ny440.out] at ho13 | (simp only [Int.reduceToNat] at ho13;rw [← Ny440.out] at ho13));replace HO1_2:=aQ (Kd.V_elder' (nV HO1_2.out) (Kd.N_base ho13) hb);replace HO2_2:=aQ (Kd.V_elder' (nV HO2_2.out) (Kd.N_base ho13) hb);have HO442:=aQ (Kd.N_lower ho13 (below_size bB));replace BK437:=aQ (blk_below (nB BK437.out) hb);replace BK438:=aQ (blk_below (nB BK438.out) hb);replace BK439:=aQ (blk_below (nB BK439.out) hb);replace HB:=aQ (below_step bB hb);clear hb ho13;obtain ⟨Ao14,co14,eo14⟩:=Kd.N_slice HO442.out;subst eo14;obtain ⟨hcz15_0,hcz15_1,hcz15_2,hfz15_0,hfz15_1,hfz15_2⟩:=cz3 BK439.out))
 refine bodyPost_ret (results_cell_row rfl _ _ gb439 29 #[.int .i64 a0,.int .i64 0,.slice Ao14 y440.length co14] (0,0) _ rfl bP Try.underlying29 rfl (by kernel_rfl)) rfl ?_
 exact ⟨_,rfl,by (with_reducible repeat (first | apply Kd.N_alloc | apply Kd.N_drewN | apply Kd.N_drew));exact Kd.N_mono (nFN (g:=gb439) HO442.out (fun k_ hk=>hk.2.2.2)) (fun _ hk=>hk.1),bB⟩
end Go.Proofs.Ytnkgcjdlfenepaa.P
