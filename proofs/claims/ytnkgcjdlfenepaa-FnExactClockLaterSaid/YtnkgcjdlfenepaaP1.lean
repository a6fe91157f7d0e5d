/- What the Go functions that the laws reach compute, and that their calls come to just that: told by a program of this session (aprint.py). No condition. -/
import Derived.Test.YtnkgcjdlfenepaaP0
import Derived.Test.YtnkgcjdlfenepaaCut
namespace Go.Proofs.Ytnkgcjdlfenepaa.P
open Go.RowKit Go.Proofs.YtnkgcjdlfenepaaW.PrintWords Go.Proofs.YtnkgcjdlfenepaaW.PrintLast Go.Proofs.YtnkgcjdlfenepaaW.PrintMore
attribute [local go_sem] max2_int min2_int max_two min_two max_three min_three max_four min_four
set_option linter.unusedVariables false
set_option linter.unusedSimpArgs false
def spec_l6In.f (a0:Int) (a1:Int) (a2:Int):Option (Bool):=if a0 ≥ a1 then (some (decide (a0 ≤ a2))) else (some false)
set_option maxHeartbeats 8000000 in
set_option maxRecDepth 100000 in
theorem spec_l6In.calls (a0:Int) (a1:Int) (a2:Int) (r:Bool) (w:World) (h:spec_l6In.f a0 a1 a2 = some r) :
  Calls Try.prog 39 #[.int .i64 a0,.int .i64 a1,.int .i64 a2] w fun e w'=>e = .returned (.bool r)∧Drawn0 w w':=by
 have H:(if a0 ≥ a1 then (some (decide (a0 ≤ a2))) else (some false)) = some r:=h
 clear h
 by_cases c4:a0 ≥ a1
 ·rw [if_pos c4] at H
  have c4b0:decide (a1 ≤ a0) = true:=decide_eq_true c4
  clear c4
  obtain rfl:=Option.some.inj H
  go_enter Try.func39,Try.ntmps39
  go_wp2
  go_ret
  exact ⟨by first | rfl | (simp;done) | (simp [*];done),by repeat (first | exact Drawn0.refl _ | apply Drawn0.step)⟩
 rw [if_neg c4] at H
 have c4b0:decide (a1 ≤ a0) = false:=decide_eq_false c4
 clear c4
 obtain rfl:=Option.some.inj H
 go_enter Try.func39,Try.ntmps39
 go_wp2
 go_ret
 exact ⟨by first | rfl | (simp;done) | (simp [*];done),by repeat (first | exact Drawn0.refl _ | apply Drawn0.step)⟩
def spec_ActOk.f (a0:Int):Option (Bool):=(spec_l6In.f a0 (-4) 4).bind fun t109=>(some t109)
set_option maxHeartbeats 8000000 in
set_option maxRecDepth 100000 in
theorem spec_ActOk.calls (a0:Int) (r:Bool) (w:World) (h:spec_ActOk.f a0 = some r) :
  Calls Try.prog 57 #[.int .i64 a0] w fun e w'=>e = .returned (.bool r)∧Drawn0 w w':=by
 have H:=h
 clear h
 obtain ⟨t109,A2,H⟩:=bQ H
 replace H:(some t109) = some r:=H
 obtain rfl:=Option.some.inj H
 go_enter Try.func57,Try.ntmps57
 go_wp2_with (first | ((with_reducible refine gate_callee (f:=39) rfl ?_);refine goesL_ (some 4) rfl rfl Try.func39 (by kernel_rfl) rfl #[.int .i64 a0,.int .i64 (-4),.int .i64 4] rfl mP ?_;(with_reducible refine (spec_l6In.calls a0 (-4) 4 t109 _ A2.out).mono ?_);rintro e w' ⟨rfl,⟨nd,rfl⟩⟩;refine ⟨_,rfl,?_⟩))
 go_ret
 exact ⟨by first | rfl | (simp;done) | (simp [*];done),by repeat (first | exact Drawn0.refl _ | apply Drawn0.step)⟩
mutual
def spec_l17Nodes.j0:Nat → Int → Bool → Int → Int → List (S29) → Option (Int)
 | 0,_,_,_,_,_=>none
 | k + 1,x3,x4,x111000,x111001,x111002=>if x4 = true then (spec_l17Nodes.j1 k x3 ((x111002.length:Int) != x3) x111000 x111001 x111002) else (spec_l17Nodes.j1 k x3 true x111000 x111001 x111002)
def spec_l17Nodes.j1:Nat → Int → Bool → Int → Int → List (S29) → Option (Int)
 | 0,_,_,_,_,_=>none
 | k + 1,x3,x36,x111000,x111001,x111002=>if x36 = true then (some 0) else (spec_l17Nodes.l0 k x3 1 0 x111000 x111001 x111002)
def spec_l17Nodes.l0:Nat → Int → Int → Int → Int → Int → List (S29) → Option (Int)
 | 0,_,_,_,_,_,_=>none
 | k + 1,x3,x5,x6,x111000,x111001,x111002=>if x6 < x3 then (if 0 ≤ x6 then (if x6 < (x111002.length:Int) then ((spec_l17Nodes.f k ((rd_T29 x111002 x6).f0) ((rd_T29 x111002 x6).f1) ((rd_T29 x111002 x6).f2)).bind fun t114=>(if t114 = 0 then (some 0) else (spec_l17Nodes.l0 k x3 (mn 1000 (wrap64 (x5 + t114))) (wrap64 (x6 + 1)) x111000 x111001 x111002))) else (none)) else (none)) else (some x5)
def spec_l17Nodes.f:Nat → Int → Int → List (S29) → Option (Int)
 | 0,_,_,_=>none
 | k + 1,a0_0,a0_1,l0_2=>if a0_0 = 0 then (spec_l17Nodes.j0 k 0 (a0_1 == 0) a0_0 a0_1 l0_2) else (if a0_0 = 1 then ((spec_ActOk.f a0_1).bind fun t111=>(spec_l17Nodes.j0 k 1 t111 a0_0 a0_1 l0_2)) else (if a0_0 = 2 then ((spec_l6In.f a0_1 1 9).bind fun t112=>(spec_l17Nodes.j0 k 1 t112 a0_0 a0_1 l0_2)) else (if a0_0 = 3 then (spec_l17Nodes.j0 k 2 (a0_1 == 0) a0_0 a0_1 l0_2) else (if a0_0 = 4 then (spec_l17Nodes.j0 k 2 (a0_1 == 0) a0_0 a0_1 l0_2) else (some 0)))))
end
theorem spec_l17Nodes.mono_l:∀ k,(∀ y0 y1 y2,LeO (spec_l17Nodes.f k y0 y1 y2) (spec_l17Nodes.f (k + 1) y0 y1 y2))∧(∀ y0 y1 y2 y3 y4,LeO (spec_l17Nodes.j0 k y0 y1 y2 y3 y4) (spec_l17Nodes.j0 (k + 1) y0 y1 y2 y3 y4))∧(∀ y0 y1 y2 y3 y4,LeO (spec_l17Nodes.j1 k y0 y1 y2 y3 y4) (spec_l17Nodes.j1 (k + 1) y0 y1 y2 y3 y4))∧(∀ y0 y1 y2 y3 y4 y5,LeO (spec_l17Nodes.l0 k y0 y1 y2 y3 y4 y5) (spec_l17Nodes.l0 (k + 1) y0 y1 y2 y3 y4 y5))
 | 0=>⟨fun _ _ _ r h=>by simp [spec_l17Nodes.f] at h,fun _ _ _ _ _ r h=>by simp [spec_l17Nodes.j0] at h,fun _ _ _ _ _ r h=>by simp [spec_l17Nodes.j1] at h,fun _ _ _ _ _ _ r h=>by simp [spec_l17Nodes.l0] at h⟩
 | k + 1=>by
  obtain ⟨ih0,ih1,ih2,ih3⟩:=spec_l17Nodes.mono_l k
  refine ⟨?_,?_,?_,?_⟩
  ·intro y0 y1 y2
   unfold spec_l17Nodes.f
   repeat' first
   | (with_reducible exact ih0 _ _ _)
   | (with_reducible exact ih1 _ _ _ _ _)
   | (with_reducible exact ih2 _ _ _ _ _)
   | (with_reducible exact ih3 _ _ _ _ _ _)
   | (with_reducible exact LeO.refl _)
   | (with_reducible exact LeO.none _)
   | (with_reducible refine LeO.ite ?_ ?_)
   | (with_reducible refine LeO.bind ?_ (fun _=>?_))
   | exact ih0 _ _ _
   | exact ih1 _ _ _ _ _
   | exact ih2 _ _ _ _ _
   | exact ih3 _ _ _ _ _ _
   | exact LeO.none _
   | refine LeO.ite ?_ ?_
   | refine LeO.bind ?_ (fun _=>?_)
  ·intro y0 y1 y2 y3 y4
   unfold spec_l17Nodes.j0
   repeat' first
   | (with_reducible exact ih0 _ _ _)
   | (with_reducible exact ih1 _ _ _ _ _)
   | (with_reducible exact ih2 _ _ _ _ _)
   | (with_reducible exact ih3 _ _ _ _ _ _)
   | (with_reducible exact LeO.refl _)
   | (with_reducible exact LeO.none _)
   | (with_reducible refine LeO.ite ?_ ?_)
   | (with_reducible refine LeO.bind ?_ (fun _=>?_))
   | exact ih0 _ _ _
   | exact ih1 _ _ _ _ _
   | exact ih2 _ _ _ _ _
   | exact ih3 _ _ _ _ _ _
   | exact LeO.none _
   | refine LeO.ite ?_ ?_
   | refine LeO.bind ?_ (fun _=>?_)
  ·intro y0 y1 y2 y3 y4
   unfold spec_l17Nodes.j1
   repeat' first
   | (with_reducible exact ih0 _ _ _)
   | (with_reducible exact ih1 _ _ _ _ _)
   | (with_reducible exact ih2 _ _ _ _ _)
   | (with_reducible exact ih3 _ _ _ _ _ _)
   | (with_reducible exact LeO.refl _)
   | (with_reducible exact LeO.none _)
   | (with_reducible refine LeO.ite ?_ ?_)
   | (with_reducible refine LeO.bind ?_ (fun _=>?_))
   | exact ih0 _ _ _
   | exact ih1 _ _ _ _ _
   | exact ih2 _ _ _ _ _
   | exact ih3 _ _ _ _ _ _
   | exact LeO.none _
   | refine LeO.ite ?_ ?_
   | refine LeO.bind ?_ (fun _=>?_)
  ·intro y0 y1 y2 y3 y4 y5
   unfold spec_l17Nodes.l0
   repeat' first
   | (with_reducible exact ih0 _ _ _)
   | (with_reducible exact ih1 _ _ _ _ _)
   | (with_reducible exact ih2 _ _ _ _ _)
   | (with_reducible exact ih3 _ _ _ _ _ _)
   | (with_reducible exact LeO.refl _)
   | (with_reducible exact LeO.none _)
   | (with_reducible refine LeO.ite ?_ ?_)
   | (with_reducible refine LeO.bind ?_ (fun _=>?_))
   | exact ih0 _ _ _
   | exact ih1 _ _ _ _ _
   | exact ih2 _ _ _ _ _
   | exact ih3 _ _ _ _ _ _
   | exact LeO.none _
   | refine LeO.ite ?_ ?_
   | refine LeO.bind ?_ (fun _=>?_)
theorem spec_l17Nodes.mono:∀ a0 a1 a2 k,LeO (spec_l17Nodes.f k a0 a1 a2) (spec_l17Nodes.f (k + 1) a0 a1 a2):=by
 intro a0 a1 a2 k
 obtain ⟨ih0,ih1,ih2,ih3⟩:=spec_l17Nodes.mono_l k
 exact ih0 a0 a1 a2
set_option maxHeartbeats 8000000 in
set_option maxRecDepth 100000 in
theorem spec_l17Nodes.calls (k:Nat):∀ (a0_0:Int) (a0_1:Int) (A0_2:Option Addr) (c0_2:Nat) (l0_2:List (S29)) (r:Int) (w:World) (hr0_2:Kd.C k29 w A0_2 l0_2.length l0_2) (hc0_2:l0_2.length ≤ c0_2) (h:spec_l17Nodes.f k a0_0 a0_1 l0_2 = some r),
  Calls Try.prog 40 #[.agg #[.int .i64 a0_0,.int .i64 a0_1,.slice A0_2 l0_2.length c0_2]] w fun e w'=>e = .returned (.int .i64 r)∧Below w.heap.size w w':=by
 induction k using Nat.strongRecOn with
 | _ k ih =>
 intro a0_0 a0_1 A0_2 c0_2 l0_2 r w hr0_2 hc0_2 h
 cases k with
 | zero=>exact absurd h (by simp [spec_l17Nodes.f])
 | succ k =>
 simp only [spec_l17Nodes.f] at h
 have hu29:=Try.underlying29
 have Zm:=aQ hr0_2
 have Ya:=aQ hc0_2
 clear hr0_2 hc0_2
 have HB:=aQ (Below.refl w.heap.size w)
 have H:=h
 clear h
 have Zn:=aQ H
 clear H
 go_enter Try.func40,Try.ntmps40
 go_upto_block 0 with (first | ((with_reducible refine gate_dst (N:=1) rfl ?_);(try (refine gate_guard (by rfl) ?_;dsimp only));refine box1 (N:=1) (cs:=#[.int .i64 a0_0,.int .i64 a0_1,.slice A0_2 l0_2.length c0_2]) (t:=29) ?_;intro Zi hg w3 hbox hb;have Za:=aQ (hbox);have Zu:=aQ (gB:w.heap.size ≤ Zi);have Yb:=Zu;replace HB:=aQ (below_step bB hb);clear hb hbox hg;obtain ⟨Zo,Zp,Zq,Zr,Zs,Zt⟩:=cz3 Za.out))
 (try simp only [Act.put,List.setIfInBounds_toArray,List.set_cons_zero,List.set_cons_succ])
 go_cut [3,4] (fun v3 v4 wc=>∃ (kq:Nat) (x3_1:Int) (x4_1:Bool),v3 = .int .i64 x3_1∧v4 = .bool x4_1∧Aside0 (spec_l17Nodes.j0 kq x3_1 x4_1 a0_0 a0_1 l0_2 = some r)∧Aside0 (kq ≤ k)∧Aside0 (wc.heap[Zi]? = some (.cells #[.int .i64 a0_0,.int .i64 a0_1,(.slice A0_2 l0_2.length c0_2)] 29 (0,0)))∧Aside0 (Below w.heap.size w wc))
 case first =>
  have H:=Zn.out
  clear Zn
  by_cases c5:a0_0 = 0
  ·rw [if_pos c5] at H
   have c5b0:(a0_0 == 0) = true:=beq_iff_eq.mpr c5
   have c5b1:(a0_0 != 0) = false:=bne_eq_false_iff_eq.mpr c5
   clear c5
   (first | rw [c5b0] | (simp only [i64_w,i32_w];rw [c5b0]) | skip)
   have H':=aQ H
   clear H
   go_wp2
   go_meet
   case rel=>exact ⟨_,(0),((a0_1 == 0)),rfl,rfl,H',⟨by first | omega | exact Nat.le_refl _⟩,⟨nB Za.out⟩,⟨bB⟩⟩
  rw [if_neg c5] at H
  have c5b0:(a0_0 == 0) = false:=beq_eq_false_iff_ne.mpr c5
  have c5b1:(a0_0 != 0) = true:=bne_iff_ne.mpr c5
  (first | rw [c5b0] | (simp only [i64_w,i32_w];rw [c5b0]) | skip)
  by_cases c6:a0_0 = 1
  ·rw [if_pos c6] at H
   have c6b0:(a0_0 == 1) = true:=beq_iff_eq.mpr c6
   have c6b1:(a0_0 != 1) = false:=bne_eq_false_iff_eq.mpr c6
   clear c6
   obtain ⟨t111,A7,H⟩:=bQ H
   (try dsimp only at H)
   have H':=aQ H
   clear H
   obtain ⟨ZU,ZV,ZW,ZX,ZY,ZZ⟩:=cz3 Za.out
   go_wp2_with (first | ((with_reducible refine gate_callee (f:=57) rfl ?_);refine goesL_ (some 19) rfl rfl Try.func57 (by kernel_rfl) rfl #[.int .i64 a0_1] rfl mP ?_;(with_reducible refine (spec_ActOk.calls a0_1 t111 _ A7.out).mono ?_);rintro e w' ⟨rfl,⟨nd,rfl⟩⟩;refine ⟨_,rfl,?_⟩))
   go_meet
   case rel=>exact ⟨_,(1),(t111),rfl,rfl,H',⟨by first | omega | exact Nat.le_refl _⟩,⟨nB Za.out⟩,⟨bB⟩⟩
  rw [if_neg c6] at H
  have c6b0:(a0_0 == 1) = false:=beq_eq_false_iff_ne.mpr c6
  have c6b1:(a0_0 != 1) = true:=bne_iff_ne.mpr c6
  by_cases c9:a0_0 = 2
  ·rw [if_pos c9] at H
   have c9b0:(a0_0 == 2) = true:=beq_iff_eq.mpr c9
   have c9b1:(a0_0 != 2) = false:=bne_eq_false_iff_eq.mpr c9
   clear c9
   obtain ⟨t112,A10,H⟩:=bQ H
   (try dsimp only at H)
   have H':=aQ H
   clear H
   obtain ⟨Zw,Zx,Zy,Zz,ZA,ZB⟩:=cz3 Za.out
   go_wp2_with (first | ((with_reducible refine gate_callee (f:=39) rfl ?_);refine goesL_ (some 24) rfl rfl Try.func39 (by kernel_rfl) rfl #[.int .i64 a0_1,.int .i64 1,.int .i64 9] rfl mP ?_;(with_reducible refine (spec_l6In.calls a0_1 1 9 t112 _ A10.out).mono ?_);rintro e w' ⟨rfl,⟨nd,rfl⟩⟩;refine ⟨_,rfl,?_⟩))
   go_meet
   case rel=>exact ⟨_,(1),(t112),rfl,rfl,H',⟨by first | omega | exact Nat.le_refl _⟩,⟨nB Za.out⟩,⟨bB⟩⟩
  rw [if_neg c9] at H
  have c9b0:(a0_0 == 2) = false:=beq_eq_false_iff_ne.mpr c9
  have c9b1:(a0_0 != 2) = true:=bne_iff_ne.mpr c9
  by_cases c12:a0_0 = 3
  ·rw [if_pos c12] at H
   have c12b0:(a0_0 == 3) = true:=beq_iff_eq.mpr c12
   have c12b1:(a0_0 != 3) = false:=bne_eq_false_iff_eq.mpr c12
   clear c12
   have H':=aQ H
   clear H
   go_wp2
   go_meet
   case rel=>exact ⟨_,(2),((a0_1 == 0)),rfl,rfl,H',⟨by first | omega | exact Nat.le_refl _⟩,⟨nB Za.out⟩,⟨bB⟩⟩
  rw [if_neg c12] at H
  have c12b0:(a0_0 == 3) = false:=beq_eq_false_iff_ne.mpr c12
  have c12b1:(a0_0 != 3) = true:=bne_iff_ne.mpr c12
  by_cases c13:a0_0 = 4;rotate_left
  ·rw [if_neg c13] at H
   have c13b0:(a0_0 == 4) = false:=beq_eq_false_iff_ne.mpr c13
   have c13b1:(a0_0 != 4) = true:=bne_iff_ne.mpr c13
   obtain rfl:=Option.some.inj H
   go_wp2
   go_ret
   exact ⟨rfl,bB⟩
  rw [if_pos c13] at H
  have c13b0:(a0_0 == 4) = true:=beq_iff_eq.mpr c13
  have c13b1:(a0_0 != 4) = false:=bne_eq_false_iff_eq.mpr c13
  clear c13
  have H':=aQ H
  clear H
  go_wp2
  go_meet
  case rel=>exact ⟨_,(2),((a0_1 == 0)),rfl,rfl,H',⟨by first | omega | exact Nat.le_refl _⟩,⟨nB Za.out⟩,⟨bB⟩⟩
 case rest =>
  clear Zn
  try clear Zo
  try clear Zp
  try clear Zq
  try clear Zr
  try clear Zs
  try clear Zt
  obtain ⟨kq,x3_1,x4_1,rfl,rfl,HA,HJ1,Za,HB⟩:=hcut
  cases kq with
  | zero=>exact absurd HA.out (by simp [spec_l17Nodes.j0])
  | succ kj1 =>
   have H:=HA.out
   clear HA
   simp only [spec_l17Nodes.j0] at H
   have Zl:=aQ H
   clear H
   go_upto_region 15 with (fail)
   go_cut [36] (fun v36 wc=>∃ (kq:Nat) (x36_13:Bool),v36 = .bool x36_13∧Aside0 (spec_l17Nodes.j1 kq x3_1 x36_13 a0_0 a0_1 l0_2 = some r)∧Aside0 (kq ≤ kj1)∧Aside0 (wc.heap[Zi]? = some (.cells #[.int .i64 a0_0,.int .i64 a0_1,(.slice A0_2 l0_2.length c0_2)] 29 (0,0)))∧Aside0 (Below w.heap.size w wc))
   case first =>
    have H:=Zl.out
    clear Zl
    by_cases c15:x4_1 = true
    ·subst c15
     have H1:(spec_l17Nodes.j1 kj1 x3_1 ((l0_2.length:Int) != x3_1) a0_0 a0_1 l0_2) = some r:=by rw [if_pos rfl] at H;exact H
     clear H
     have H:=H1
     clear H1
     have H':=aQ H
     clear H
     obtain ⟨ZC,ZD,ZE,ZF,ZG,ZH⟩:=cz3 Za.out
     go_wp2
     go_meet
     case rel=>exact ⟨_,(((l0_2.length:Int) != x3_1)),rfl,H',⟨by have:=HJ1.out;first | omega | exact Nat.le_refl _⟩,⟨nB Za.out⟩,⟨bB⟩⟩
    ·replace c15:=Bool.eq_false_iff.mpr c15
     subst c15
     have H1:(spec_l17Nodes.j1 kj1 x3_1 true a0_0 a0_1 l0_2) = some r:=by rw [if_neg (show ¬ (false = true) by decide)] at H;exact H
     clear H
     have H:=H1
     clear H1
     have H':=aQ H
     clear H
     go_wp2
     go_meet
     case rel=>exact ⟨_,(true),rfl,H',⟨by have:=HJ1.out;first | omega | exact Nat.le_refl _⟩,⟨nB Za.out⟩,⟨bB⟩⟩
   case rest =>
    clear Zl
    obtain ⟨kq,x36_13,rfl,HA,HJ13,Za,HB⟩:=hcut
    cases kq with
    | zero=>exact absurd HA.out (by simp [spec_l17Nodes.j1])
    | succ kj13 =>
     have H:=HA.out
     clear HA
     simp only [spec_l17Nodes.j1] at H
     by_cases c17:x36_13 = true
     ·subst c17
      have H1:(some 0) = some r:=by rw [if_pos rfl] at H;exact H
      clear H
      have H:=H1
      clear H1
      obtain rfl:=Option.some.inj H
      go_wp2
      go_ret
      exact ⟨rfl,bB⟩
     ·replace c17:=Bool.eq_false_iff.mpr c17
      subst c17
      have H1:(spec_l17Nodes.l0 kj13 x3_1 1 0 a0_0 a0_1 l0_2) = some r:=by rw [if_neg (show ¬ (false = true) by decide)] at H;exact H
      clear H
      have H:=H1
      clear H1
      have H':=aQ H
      clear H
      go_wp2
      go_loopg [5,6] kj13 (fun kq v5 v6 w'=>∃ (x5_3:Int) (x6_3:Int),v5 = .int .i64 x5_3∧v6 = .int .i64 x6_3∧Aside0 (spec_l17Nodes.l0 kq x3_1 x5_3 x6_3 a0_0 a0_1 l0_2 = some r)∧Aside0 (kq ≤ kj13)∧Aside0 (w'.heap[Zi]? = some (.cells #[.int .i64 a0_0,.int .i64 a0_1,(.slice A0_2 l0_2.length c0_2)] 29 (0,0)))∧Aside0 (Below w.heap.size w w'))
      case atStart=>exact ⟨(1),(0),rfl,rfl,H',⟨Nat.le_refl _⟩,⟨nB Za.out⟩,⟨bB⟩⟩
      case round =>
       clear H'
       repeat (first | clear Za | clear HB)
       obtain ⟨x5_3,x6_3,rfl,rfl,HA,HK3,Za,HB⟩:=hrel
       cases gk with
       | zero=>exact absurd HA.out (by simp [spec_l17Nodes.l0])
       | succ k3 =>
        have H:=HA.out
        clear HA
        simp only [spec_l17Nodes.l0] at H
        by_cases c18:x6_3 < x3_1;rotate_left
        ·rw [if_neg c18] at H
         have c18b0:decide (x6_3 < x3_1) = false:=decide_eq_false c18
         clear c18
         obtain rfl:=Option.some.inj H
         go_wp2
         go_ret
         exact ⟨rfl,bB⟩
        rw [if_pos c18] at H
        have c18b0:decide (x6_3 < x3_1) = true:=decide_eq_true c18
        clear c18
        by_cases c19:0 ≤ x6_3;rotate_left
        ·rw [if_neg c19] at H
         exact absurd H (by simp)
        rw [if_pos c19] at H
        have c19b0:decide (0 ≤ x6_3) = true:=decide_eq_true c19
        clear c19
        by_cases c20:x6_3 < (l0_2.length:Int);rotate_left
        ·rw [if_neg c20] at H
         exact absurd H (by simp)
        rw [if_pos c20] at H
        have c20b0:decide (x6_3 < (l0_2.length:Int)) = true:=decide_eq_true c20
        clear c20
        obtain ⟨t114,A21,H⟩:=bQ H
        (try dsimp only at H)
        by_cases c22:t114 = 0
        ·rw [if_pos c22] at H
         have c22b0:(t114 == 0) = true:=beq_iff_eq.mpr c22
         have c22b1:(t114 != 0) = false:=bne_eq_false_iff_eq.mpr c22
         clear c22
         obtain rfl:=Option.some.inj H
         obtain ⟨ZI,ZJ,ZK,ZL,ZM,ZN⟩:=cz3 Za.out
         have p113:0 ≤ (x6_3:Int):=of_decide_eq_true (by first | (with_reducible assumption) | assumption)
         have q113:x6_3 < (l0_2.length:Int):=of_decide_eq_true (by first | (with_reducible assumption) | assumption)
         obtain ⟨Zv,A113_2,c113_2,e113,Zb,Zc,Zd,Ze,Zf⟩:=at_T29 Zm.out x6_3 p113 q113
         cases e113
         replace Zb:=(HB.out.cell (World.block_lt_of_cell? w _ Zb)).trans Zb
         replace Zc:=(HB.out.cell (World.block_lt_of_cell? w _ Zc)).trans Zc
         replace Zd:=(HB.out.cell (World.block_lt_of_cell? w _ Zd)).trans Zd
         have Zg:=aQ Zf
         have Zh:=aQ Ze
         clear Zf Ze
         replace p113:=eq_true p113
         replace q113:=eq_true q113
         go_wp2_with (first | ((with_reducible refine gate_callee (f:=40) rfl ?_);refine goesL_ (some 47) rfl rfl Try.func40 (by kernel_rfl) rfl #[.agg #[.int .i64 ((rd_T29 l0_2 x6_3).f0),.int .i64 ((rd_T29 l0_2 x6_3).f1),.slice A113_2 ((rd_T29 l0_2 x6_3).f2).length c113_2]] rfl mP ?_;(with_reducible refine (ih k3 (by have:=HJ1.out;have:=HJ13.out;have:=HK3.out;omega) ((rd_T29 l0_2 x6_3).f0) ((rd_T29 l0_2 x6_3).f1) _ _ ((rd_T29 l0_2 x6_3).f2) t114 _ ?Zj ?Zk A21.out).mono ?_);(case Zj=>repeat (first | exact (Kd.C_below Zg.out HB.out) | (with_reducible refine Kd.C_alloc ?_ _) | (with_reducible refine Kd.C_drewN ?_ _) | (with_reducible refine Kd.C_drew ?_)));(case Zk=>exact Zh.out);rintro e w24 ⟨rfl,hb⟩;refine ⟨_,rfl,?_⟩;replace Za:=aQ (blk_below (nB Za.out) hb);replace HB:=aQ (below_step bB hb);(try clear hb)))
         go_ret
         exact ⟨rfl,bB⟩
        rw [if_neg c22] at H
        have c22b0:(t114 == 0) = false:=beq_eq_false_iff_ne.mpr c22
        have c22b1:(t114 != 0) = true:=bne_iff_ne.mpr c22
        obtain ⟨ji25,hji25⟩:∃ j_:Int,(mn 1000 (wrap64 (x5_3 + t114))) = j_:=⟨_,rfl⟩
        replace H:(spec_l17Nodes.l0 k3 x3_1 ji25 (wrap64 (x6_3 + 1)) a0_0 a0_1 l0_2) = some r:=by first | (rw [hji25] at H;exact H) | (simp only [hji25] at H ⊢;exact H)
        (try rw [hji25] at A21)
        have hji25_:(if (wrap64 (x5_3 + t114)) < 1000 then (wrap64 (x5_3 + t114)) else 1000) = ji25:=hji25
        have H':=aQ H
        clear H
        obtain ⟨ZO,ZP,ZQ,ZR,ZS,ZT⟩:=cz3 Za.out
        have p113:0 ≤ (x6_3:Int):=of_decide_eq_true (by first | (with_reducible assumption) | assumption)
        have q113:x6_3 < (l0_2.length:Int):=of_decide_eq_true (by first | (with_reducible assumption) | assumption)
        obtain ⟨Zv,A113_2,c113_2,e113,Zb,Zc,Zd,Ze,Zf⟩:=at_T29 Zm.out x6_3 p113 q113
        cases e113
        replace Zb:=(HB.out.cell (World.block_lt_of_cell? w _ Zb)).trans Zb
        replace Zc:=(HB.out.cell (World.block_lt_of_cell? w _ Zc)).trans Zc
        replace Zd:=(HB.out.cell (World.block_lt_of_cell? w _ Zd)).trans Zd
        have Zg:=aQ Zf
        have Zh:=aQ Ze
        clear Zf Ze
        replace p113:=eq_true p113
        replace q113:=eq_true q113
        go_wp2_with (first | ((with_reducible refine gate_callee (f:=40) rfl ?_);refine goesL_ (some 47) rfl rfl Try.func40 (by kernel_rfl) rfl #[.agg #[.int .i64 ((rd_T29 l0_2 x6_3).f0),.int .i64 ((rd_T29 l0_2 x6_3).f1),.slice A113_2 ((rd_T29 l0_2 x6_3).f2).length c113_2]] rfl mP ?_;(with_reducible refine (ih k3 (by have:=HJ1.out;have:=HJ13.out;have:=HK3.out;omega) ((rd_T29 l0_2 x6_3).f0) ((rd_T29 l0_2 x6_3).f1) _ _ ((rd_T29 l0_2 x6_3).f2) t114 _ ?Zj ?Zk A21.out).mono ?_);(case Zj=>repeat (first | exact (Kd.C_below Zg.out HB.out) | (with_reducible refine Kd.C_alloc ?_ _) | (with_reducible refine Kd.C_drewN ?_ _) | (with_reducible refine Kd.C_drew ?_)));(case Zk=>exact Zh.out);rintro e w27 ⟨rfl,hb⟩;refine ⟨_,rfl,?_⟩;replace Za:=aQ (blk_below (nB Za.out) hb);replace HB:=aQ (below_step bB hb);(try clear hb)))
        go_roundg k3
        case measure=>have:=HJ1.out;have:=HJ13.out;have:=HK3.out;omega
        case rel=>exact ⟨(ji25),(wrap64 (x6_3 + 1)),(by first | rfl | (simp;done) | (simp only [← hji25] <;> (first | rfl | simp)) | (simp [*];done)),rfl,H',⟨by have:=HJ1.out;have:=HJ13.out;have:=HK3.out;omega⟩,⟨nB Za.out⟩,⟨bB⟩⟩
def spec_ClockOk.f (k:Nat) (a0_0:Int) (a0_1:Int) (l0_2:List (S29)):Option (Bool):=(spec_l17Nodes.f k a0_0 a0_1 l0_2).bind fun t116=>((spec_l6In.f t116 1 16).bind fun t117=>(some t117))
theorem spec_ClockOk.mono:∀ a0 a1 a2 k,LeO (spec_ClockOk.f k a0 a1 a2) (spec_ClockOk.f (k + 1) a0 a1 a2):=by
 intro a0 a1 a2 k
 unfold spec_ClockOk.f
 repeat' first
   | (with_reducible exact spec_l17Nodes.mono _ _ _ _)
   | (with_reducible exact LeO.refl _)
   | (with_reducible exact LeO.none _)
   | (with_reducible refine LeO.ite ?_ ?_)
   | (with_reducible refine LeO.bind ?_ (fun _=>?_))
   | exact spec_l17Nodes.mono _ _ _ _
   | exact LeO.none _
   | refine LeO.ite ?_ ?_
   | refine LeO.bind ?_ (fun _=>?_)
set_option maxHeartbeats 8000000 in
set_option maxRecDepth 100000 in
theorem spec_ClockOk.calls (k:Nat) (a0_0:Int) (a0_1:Int) (A0_2:Option Addr) (c0_2:Nat) (l0_2:List (S29)) (r:Bool) (w:World) (hr0_2:Kd.C k29 w A0_2 l0_2.length l0_2) (hc0_2:l0_2.length ≤ c0_2) (h:spec_ClockOk.f k a0_0 a0_1 l0_2 = some r) :
  Calls Try.prog 14 #[.agg #[.int .i64 a0_0,.int .i64 a0_1,.slice A0_2 l0_2.length c0_2]] w fun e w'=>e = .returned (.bool r)∧Below w.heap.size w w':=by
 have hu29:=Try.underlying29
 have Zb:=aQ hr0_2
 have Zc:=aQ hc0_2
 clear hr0_2 hc0_2
 have HB:=aQ (Below.refl w.heap.size w)
 have H:=h
 clear h
 obtain ⟨t116,A2,H⟩:=bQ H
 (try dsimp only at H)
 obtain ⟨t117,A3,H⟩:=bQ H
 replace H:(some t117) = some r:=H
 obtain rfl:=Option.some.inj H
 go_enter Try.func14,Try.ntmps14
 go_wp2_with (first | ((with_reducible refine gate_dst (N:=1) rfl ?_);refine box1 (N:=1) (cs:=#[.int .i64 a0_0,.int .i64 a0_1,.slice A0_2 l0_2.length c0_2]) (t:=29) ?_;intro Zd hg w4 hbox hb;have Za:=aQ (hbox);have Ze:=aQ (gB:w.heap.size ≤ Zd);have Zn:=Ze;replace HB:=aQ (below_step bB hb);clear hb hbox hg;obtain ⟨Zh,Zi,Zj,Zk,Zl,Zm⟩:=cz3 Za.out) | ((with_reducible refine gate_callee (f:=40) rfl ?_);refine goesL_ (some 4) rfl rfl Try.func40 (by kernel_rfl) rfl #[.agg #[.int .i64 a0_0,.int .i64 a0_1,.slice A0_2 l0_2.length c0_2]] rfl mP ?_;(with_reducible refine (spec_l17Nodes.calls k a0_0 a0_1 _ _ l0_2 t116 _ ?Zf ?Zg A2.out).mono ?_);(case Zf=>repeat (first | exact (Kd.C_below Zb.out HB.out) | (with_reducible refine Kd.C_alloc ?_ _) | (with_reducible refine Kd.C_drewN ?_ _) | (with_reducible refine Kd.C_drew ?_)));(case Zg=>exact Zc.out);rintro e w6 ⟨rfl,hb⟩;refine ⟨_,rfl,?_⟩;replace Za:=aQ (blk_below (nB Za.out) hb);replace HB:=aQ (below_step bB hb);(try clear hb)) | ((with_reducible refine gate_callee (f:=39) rfl ?_);refine goesL_ (some 5) rfl rfl Try.func39 (by kernel_rfl) rfl #[.int .i64 t116,.int .i64 1,.int .i64 16] rfl mP ?_;(with_reducible refine (spec_l6In.calls t116 1 16 t117 _ A3.out).mono ?_);rintro e w' ⟨rfl,⟨nd,rfl⟩⟩;refine ⟨_,rfl,?_⟩))
 go_ret
 exact ⟨rfl,bB⟩
mutual
def impl_clockNodes.l0:Nat → Int → Int → List (S29) → Int → Int → Option (Int)
 | 0,_,_,_,_,_=>none
 | k + 1,x1,x5,x9,x10,x11=>if x11 < x10 then (if 0 ≤ x11 then (if x11 < (x9.length:Int) then (if x5 > x1 then (some x5) else ((impl_clockNodes.f k ((rd_T29 x9 x11).f0) ((rd_T29 x9 x11).f1) ((rd_T29 x9 x11).f2) (wrap64 (x1 - x5))).bind fun t153=>(impl_clockNodes.l0 k x1 (wrap64 (x5 + t153)) x9 x10 (wrap64 (x11 + 1))))) else (none)) else (none)) else (some x5)
def impl_clockNodes.f:Nat → Int → Int → List (S29) → Int → Option (Int)
 | 0,_,_,_,_=>none
 | k + 1,a0_0,a0_1,l0_2,a1=>impl_clockNodes.l0 k a1 1 l0_2 (l0_2.length:Int) 0
end
theorem impl_clockNodes.mono_l:∀ k,(∀ y0 y1 y2 y3,LeO (impl_clockNodes.f k y0 y1 y2 y3) (impl_clockNodes.f (k + 1) y0 y1 y2 y3))∧(∀ y0 y1 y2 y3 y4,LeO (impl_clockNodes.l0 k y0 y1 y2 y3 y4) (impl_clockNodes.l0 (k + 1) y0 y1 y2 y3 y4))
 | 0=>⟨fun _ _ _ _ r h=>by simp [impl_clockNodes.f] at h,fun _ _ _ _ _ r h=>by simp [impl_clockNodes.l0] at h⟩
 | k + 1=>by
  obtain ⟨ih0,ih1⟩:=impl_clockNodes.mono_l k
  refine ⟨?_,?_⟩
  ·intro y0 y1 y2 y3
   unfold impl_clockNodes.f
   repeat' first
   | (with_reducible exact ih0 _ _ _ _)
   | (with_reducible exact ih1 _ _ _ _ _)
   | (with_reducible exact LeO.refl _)
   | (with_reducible exact LeO.none _)
   | (with_reducible refine LeO.ite ?_ ?_)
   | (with_reducible refine LeO.bind ?_ (fun _=>?_))
   | exact ih0 _ _ _ _
   | exact ih1 _ _ _ _ _
   | exact LeO.none _
   | refine LeO.ite ?_ ?_
   | refine LeO.bind ?_ (fun _=>?_)
  ·intro y0 y1 y2 y3 y4
   unfold impl_clockNodes.l0
   repeat' first
   | (with_reducible exact ih0 _ _ _ _)
   | (with_reducible exact ih1 _ _ _ _ _)
   | (with_reducible exact LeO.refl _)
   | (with_reducible exact LeO.none _)
   | (with_reducible refine LeO.ite ?_ ?_)
   | (with_reducible refine LeO.bind ?_ (fun _=>?_))
   | exact ih0 _ _ _ _
   | exact ih1 _ _ _ _ _
   | exact LeO.none _
   | refine LeO.ite ?_ ?_
   | refine LeO.bind ?_ (fun _=>?_)
theorem impl_clockNodes.mono:∀ a0 a1 a2 a3 k,LeO (impl_clockNodes.f k a0 a1 a2 a3) (impl_clockNodes.f (k + 1) a0 a1 a2 a3):=by
 intro a0 a1 a2 a3 k
 obtain ⟨ih0,ih1⟩:=impl_clockNodes.mono_l k
 exact ih0 a0 a1 a2 a3
set_option maxHeartbeats 8000000 in
set_option maxRecDepth 100000 in
theorem impl_clockNodes.calls (k:Nat):∀ (a0_0:Int) (a0_1:Int) (A0_2:Option Addr) (c0_2:Nat) (l0_2:List (S29)) (a1:Int) (r:Int) (w:World) (hr0_2:Kd.C k29 w A0_2 l0_2.length l0_2) (hc0_2:l0_2.length ≤ c0_2) (h:impl_clockNodes.f k a0_0 a0_1 l0_2 a1 = some r),
  Calls Try.prog 42 #[.agg #[.int .i64 a0_0,.int .i64 a0_1,.slice A0_2 l0_2.length c0_2],.int .i64 a1] w fun e w'=>e = .returned (.int .i64 r)∧Below w.heap.size w w':=by
 induction k using Nat.strongRecOn with
 | _ k ih =>
 intro a0_0 a0_1 A0_2 c0_2 l0_2 a1 r w hr0_2 hc0_2 h
 cases k with
 | zero=>exact absurd h (by simp [impl_clockNodes.f])
 | succ k =>
 simp only [impl_clockNodes.f] at h
 have hu29:=Try.underlying29
 have Zo:=aQ hr0_2
 have ZM:=aQ hc0_2
 clear hr0_2 hc0_2
 have HB:=aQ (Below.refl w.heap.size w)
 have H:=h
 clear h
 have H':=aQ H
 clear H
 go_enter Try.func42,Try.ntmps42
 go_wp2_with (first | ((with_reducible refine gate_dst (N:=2) rfl ?_);refine box1 (N:=2) (cs:=#[.int .i64 a0_0,.int .i64 a0_1,.slice A0_2 l0_2.length c0_2]) (t:=29) ?_;intro Zj hg w3 hbox hb;have Za:=aQ (hbox);have Zw:=aQ (gB:w.heap.size ≤ Zj);have ZN:=Zw;replace HB:=aQ (below_step bB hb);clear hb hbox hg;obtain ⟨Zq,Zr,Zs,Zt,Zu,Zv⟩:=cz3 Za.out))
 go_loopg [5,11] k (fun kq v5 v11 w'=>∃ (x5_1:Int) (x11_1:Int),v5 = .int .i64 x5_1∧v11 = .int .i64 x11_1∧Aside0 (impl_clockNodes.l0 kq a1 x5_1 l0_2 (l0_2.length:Int) x11_1 = some r)∧Aside0 (kq ≤ k)∧Aside0 (w'.heap[Zj]? = some (.cells #[.int .i64 a0_0,.int .i64 a0_1,(.slice A0_2 l0_2.length c0_2)] 29 (0,0)))∧Aside0 (Below w.heap.size w w'))
 case atStart=>exact ⟨(1),(0),rfl,rfl,H',⟨Nat.le_refl _⟩,⟨nB Za.out⟩,⟨bB⟩⟩
 case round =>
  clear H'
  try clear Zq
  try clear Zr
  try clear Zs
  try clear Zt
  try clear Zu
  try clear Zv
  repeat (first | clear Za | clear HB)
  obtain ⟨x5_1,x11_1,rfl,rfl,HA,HK1,Za,HB⟩:=hrel
  cases gk with
  | zero=>exact absurd HA.out (by simp [impl_clockNodes.l0])
  | succ k1 =>
   have H:=HA.out
   clear HA
   simp only [impl_clockNodes.l0] at H
   by_cases c5:x11_1 < (l0_2.length:Int);rotate_left
   ·rw [if_neg c5] at H
    have c5b0:decide (x11_1 < (l0_2.length:Int)) = false:=decide_eq_false c5
    clear c5
    obtain rfl:=Option.some.inj H
    go_wp2
    go_ret
    exact ⟨rfl,bB⟩
   rw [if_pos c5] at H
   have c5b0:decide (x11_1 < (l0_2.length:Int)) = true:=decide_eq_true c5
   clear c5
   by_cases c6:0 ≤ x11_1;rotate_left
   ·rw [if_neg c6] at H
    exact absurd H (by simp)
   rw [if_pos c6] at H
   have c6b0:decide (0 ≤ x11_1) = true:=decide_eq_true c6
   clear c6
   by_cases c7:x11_1 < (l0_2.length:Int);rotate_left
   ·rw [if_neg c7] at H
    exact absurd H (by simp)
   rw [if_pos c7] at H
   have c7b0:decide (x11_1 < (l0_2.length:Int)) = true:=decide_eq_true c7
   clear c7
   by_cases c8:x5_1 > a1
   ·rw [if_pos c8] at H
    have c8b0:decide (a1 < x5_1) = true:=decide_eq_true c8
    clear c8
    obtain rfl:=Option.some.inj H
    have p151:0 ≤ (x11_1:Int):=of_decide_eq_true (by first | (with_reducible assumption) | assumption)
    have q151:x11_1 < (l0_2.length:Int):=of_decide_eq_true (by first | (with_reducible assumption) | assumption)
    obtain ⟨Zp,A151_2,c151_2,e151,Zb,Zc,Zd,Zf,Zg⟩:=at_T29 Zo.out x11_1 p151 q151
    cases e151
    replace Zb:=(HB.out.cell (World.block_lt_of_cell? w _ Zb)).trans Zb
    replace Zc:=(HB.out.cell (World.block_lt_of_cell? w _ Zc)).trans Zc
    replace Zd:=(HB.out.cell (World.block_lt_of_cell? w _ Zd)).trans Zd
    have Zl:=aQ Zg
    have Zm:=aQ Zf
    clear Zg Zf
    replace p151:=eq_true p151
    replace q151:=eq_true q151
    go_wp2_with (first | ((with_reducible refine gate_dst (N:=7) rfl ?_);refine box1 (N:=7) (cs:=#[.int .i64 0,.int .i64 0,.slice none 0 0]) (t:=29) ?_;intro Zi hg w9 hbox hb;have Zk:=aQ (hbox);have Zn:=aQ (gB:w.heap.size ≤ Zi);have Zx:=Zn;replace HB:=aQ (below_step bB hb);have Ze:=aQ ((by rw [hg];exact Nat.ne_of_lt (blk_lt (nB Za.out)):Zj ≠ Zi));have Zh:=aQ Ze.out.symm;replace Za:=aQ (blk_below (nB Za.out) hb);clear hb hbox hg;have ZO:=Zh.out;have ZP:=Ze.out;obtain ⟨ZA,ZB,ZC,ZD,ZE,ZF⟩:=cz3 Zk.out))
    go_ret
    exact ⟨rfl,bB⟩
   rw [if_neg c8] at H
   have c8b0:decide (a1 < x5_1) = false:=decide_eq_false c8
   clear c8
   obtain ⟨t153,A12,H⟩:=bQ H
   (try dsimp only at H)
   have H':=aQ H
   clear H
   have p151:0 ≤ (x11_1:Int):=of_decide_eq_true (by first | (with_reducible assumption) | assumption)
   have q151:x11_1 < (l0_2.length:Int):=of_decide_eq_true (by first | (with_reducible assumption) | assumption)
   obtain ⟨Zp,A151_2,c151_2,e151,Zb,Zc,Zd,Zf,Zg⟩:=at_T29 Zo.out x11_1 p151 q151
   cases e151
   replace Zb:=(HB.out.cell (World.block_lt_of_cell? w _ Zb)).trans Zb
   replace Zc:=(HB.out.cell (World.block_lt_of_cell? w _ Zc)).trans Zc
   replace Zd:=(HB.out.cell (World.block_lt_of_cell? w _ Zd)).trans Zd
   have Zl:=aQ Zg
   have Zm:=aQ Zf
   clear Zg Zf
   replace p151:=eq_true p151
   replace q151:=eq_true q151
   go_wp2_with (first | ((with_reducible refine gate_dst (N:=7) rfl ?_);refine box1 (N:=7) (cs:=#[.int .i64 0,.int .i64 0,.slice none 0 0]) (t:=29) ?_;intro Zi hg w13 hbox hb;have Zk:=aQ (hbox);have Zn:=aQ (gB:w.heap.size ≤ Zi);have Zx:=Zn;replace HB:=aQ (below_step bB hb);have Ze:=aQ ((by rw [hg];exact Nat.ne_of_lt (blk_lt (nB Za.out)):Zj ≠ Zi));have Zh:=aQ Ze.out.symm;replace Za:=aQ (blk_below (nB Za.out) hb);clear hb hbox hg;have ZQ:=Zh.out;have ZR:=Ze.out;obtain ⟨ZG,ZH,ZI,ZJ,ZK,ZL⟩:=cz3 Zk.out) | ((with_reducible refine gate_callee (f:=42) rfl ?_);refine goesL_ (some 24) rfl rfl Try.func42 (by kernel_rfl) rfl #[.agg #[.int .i64 ((rd_T29 l0_2 x11_1).f0),.int .i64 ((rd_T29 l0_2 x11_1).f1),.slice A151_2 ((rd_T29 l0_2 x11_1).f2).length c151_2],.int .i64 (wrap64 (a1 - x5_1))] rfl mP ?_;(with_reducible refine (ih k1 (by have:=HK1.out;omega) ((rd_T29 l0_2 x11_1).f0) ((rd_T29 l0_2 x11_1).f1) _ _ ((rd_T29 l0_2 x11_1).f2) (wrap64 (a1 - x5_1)) t153 _ ?Zy ?Zz A12.out).mono ?_);(case Zy=>exact Kd.C_below Zl.out bB);(case Zz=>exact Zm.out);rintro e w16 ⟨rfl,hb⟩;refine ⟨_,rfl,?_⟩;replace Za:=aQ (blk_below (g:=Zj) (o:=.cells #[.int .i64 a0_0,.int .i64 a0_1,.slice (some Zp) l0_2.length c0_2] 29 (0,0)) bF hb);replace Zk:=aQ (blk_below (g:=Zi) (o:=.cells #[.int .i64 ((rd_T29 l0_2 x11_1).f0),.int .i64 ((rd_T29 l0_2 x11_1).f1),.slice A151_2 ((rd_T29 l0_2 x11_1).f2).length c151_2] 29 (0,0)) bP hb);replace HB:=aQ (below_step bB hb);(try clear hb)))
   go_roundg k1
   case measure=>have:=HK1.out;omega
   case rel=>exact ⟨(wrap64 (x5_1 + t153)),(wrap64 (x11_1 + 1)),rfl,rfl,H',⟨by have:=HK1.out;omega⟩,⟨nB Za.out⟩,⟨bB⟩⟩
def impl_ActOk.f (a0:Int):Option (Bool):=if a0 ≥ (-4) then (some (decide (a0 ≤ 4))) else (some false)
set_option maxHeartbeats 8000000 in
set_option maxRecDepth 100000 in
theorem impl_ActOk.calls (a0:Int) (r:Bool) (w:World) (h:impl_ActOk.f a0 = some r) :
  Calls Try.prog 58 #[.int .i64 a0] w fun e w'=>e = .returned (.bool r)∧Drawn0 w w':=by
 have H:(if a0 ≥ (-4) then (some (decide (a0 ≤ 4))) else (some false)) = some r:=h
 clear h
 by_cases c2:a0 ≥ (-4)
 ·rw [if_pos c2] at H
  have c2b0:decide ((-4) ≤ a0) = true:=decide_eq_true c2
  clear c2
  obtain rfl:=Option.some.inj H
  go_enter Try.func58,Try.ntmps58
  go_wp2
  go_ret
  exact ⟨by first | rfl | (simp;done) | (simp [*];done),by repeat (first | exact Drawn0.refl _ | apply Drawn0.step)⟩
 rw [if_neg c2] at H
 have c2b0:decide ((-4) ≤ a0) = false:=decide_eq_false c2
 clear c2
 obtain rfl:=Option.some.inj H
 go_enter Try.func58,Try.ntmps58
 go_wp2
 go_ret
 exact ⟨by first | rfl | (simp;done) | (simp [*];done),by repeat (first | exact Drawn0.refl _ | apply Drawn0.step)⟩
def impl_beside.f (a0_0:Int) (a0_1:Int) (l0_2:List (S29)) (a1_0:Int) (a1_1:Int) (l1_2:List (S29)):Option (Int × Int × (List (S29))):=some (4,0,(([(⟨a0_0,a0_1,l0_2⟩:S29),(⟨a1_0,a1_1,l1_2⟩:S29)]:List (S29))))
set_option maxHeartbeats 8000000 in
set_option maxRecDepth 100000 in
theorem impl_beside.calls (a0_0:Int) (a0_1:Int) (P0_2_:Nat → Prop) (A0_2:Option Addr) (c0_2:Nat) (l0_2:List (S29)) (a1_0:Int) (a1_1:Int) (P1_2_:Nat → Prop) (A1_2:Option Addr) (c1_2:Nat) (l1_2:List (S29)) (r1:Int) (r2:Int) (r3:List (S29)) (w:World) (hs0_2:Kd.V k29 29 w w.heap.size (fun k_=>P0_2_ k_) (.slice A0_2 l0_2.length c0_2) l0_2) (hs1_2:Kd.V k29 29 w w.heap.size (fun k_=>P1_2_ k_) (.slice A1_2 l1_2.length c1_2) l1_2) (h:impl_beside.f a0_0 a0_1 l0_2 a1_0 a1_1 l1_2 = some (r1,r2,r3)) :
  Calls Try.prog 62 #[.agg #[.int .i64 a0_0,.int .i64 a0_1,.slice A0_2 l0_2.length c0_2],.agg #[.int .i64 a1_0,.int .i64 a1_1,.slice A1_2 l1_2.length c1_2]] w fun e w'=>∃ v2_:Value,e = .returned (.agg #[.int .i64 r1,.int .i64 r2,v2_])∧Kd.N k29 29 w' w.heap.size (fun k_=>((P0_2_ k_ ∨ P1_2_ k_) ∨ w.heap.size ≤ k_)) v2_ r3∧Below w.heap.size w w':=by
 have hu29:=Try.underlying29
 have Zd:=aQ (show Kd.V k29 29 w w.heap.size (fun k_=>((P0_2_ k_ ∨ P1_2_ k_) ∨ w.heap.size ≤ k_)) (.slice A0_2 l0_2.length c0_2) l0_2 from Kd.V_mono hs0_2 (fun k_ hk=>.inl (.inl hk)))
 have Ze:=aQ (show Kd.V k29 29 w w.heap.size (fun k_=>((P0_2_ k_ ∨ P1_2_ k_) ∨ w.heap.size ≤ k_)) (.slice A1_2 l1_2.length c1_2) l1_2 from Kd.V_mono hs1_2 (fun k_ hk=>.inl (.inr hk)))
 have HB:=aQ (Below.refl w.heap.size w)
 have H:=h
 clear h
 obtain ⟨y314,Zl⟩:∃ y_:List (S29),y_ = (([(⟨a0_0,a0_1,l0_2⟩:S29),(⟨a1_0,a1_1,l1_2⟩:S29)]:List (S29))):=⟨_,rfl⟩
 replace H:(some (4,0,y314)) = some (r1,r2,r3):=by rw [Zl];exact H
 have Zp:=aQ Zl
 clear Zl
 simp only [Option.some.injEq,Prod.mk.injEq] at H
 obtain ⟨rfl,rfl,rfl⟩:=H
 go_enter Try.func62,Try.ntmps62
 go_wp2_with (first | ((with_reducible refine gate_dst (N:=2) rfl ?_);refine box1 (N:=2) (cs:=#[.int .i64 a0_0,.int .i64 a0_1,.slice A0_2 l0_2.length c0_2]) (t:=29) ?_;intro Zb hg w3 hbox hb;replace Zd:=aQ (Kd.V_below (Kd.V_elderB (nV Zd.out) Zb (Nat.le_of_eq hg.symm)) hb);replace Ze:=aQ (Kd.V_below (Kd.V_elderB (nV Ze.out) Zb (Nat.le_of_eq hg.symm)) hb);have Zf:=aQ (hbox);have Zr:=aQ (gB:w.heap.size ≤ Zb);have ZP:=Zr;replace HB:=aQ (below_step bB hb);clear hb hbox hg) | ((with_reducible refine gate_dst (N:=3) rfl ?_);refine box1 (N:=3) (cs:=#[.int .i64 a1_0,.int .i64 a1_1,.slice A1_2 l1_2.length c1_2]) (t:=29) ?_;intro Zc hg w4 hbox hb;replace Zd:=aQ (Kd.V_below (Kd.V_elderB (nV Zd.out) Zc (Nat.le_of_eq hg.symm)) hb);replace Ze:=aQ (Kd.V_below (Kd.V_elderB (nV Ze.out) Zc (Nat.le_of_eq hg.symm)) hb);have Zg:=aQ (hbox);have Zs:=aQ (gB:w.heap.size ≤ Zc);have ZQ:=Zs;replace HB:=aQ (below_step bB hb);have Zh:=aQ ((by rw [hg];exact Nat.ne_of_lt (blk_lt (nB Zf.out)):Zb ≠ Zc));have Zm:=aQ Zh.out.symm;replace Zf:=aQ (blk_below (nB Zf.out) hb);clear hb hbox hg) | ((with_reducible refine gate_dst (N:=4) rfl ?_);refine box1 (N:=4) (cs:=#[.int .i64 0,.int .i64 0,.slice none 0 0]) (t:=29) ?_;intro Za hg w5 hbox hb;replace Zd:=aQ (Kd.V_below (Kd.V_elderB (nV Zd.out) Za (Nat.le_of_eq hg.symm)) hb);replace Ze:=aQ (Kd.V_below (Kd.V_elderB (nV Ze.out) Za (Nat.le_of_eq hg.symm)) hb);have Zk:=aQ (hbox);have Zt:=aQ (gB:w.heap.size ≤ Za);have ZR:=Zt;replace HB:=aQ (below_step bB hb);have Zi:=aQ ((by rw [hg];exact Nat.ne_of_lt (blk_lt (nB Zf.out)):Zb ≠ Za));have Zn:=aQ Zi.out.symm;replace Zf:=aQ (blk_below (nB Zf.out) hb);have Zj:=aQ ((by rw [hg];exact Nat.ne_of_lt (blk_lt (nB Zg.out)):Zc ≠ Za));have Zo:=aQ Zj.out.symm;replace Zg:=aQ (blk_below (nB Zg.out) hb);clear hb hbox hg;have ZS:=Zh.out;have ZT:=Zm.out;have ZU:=Zi.out;have ZV:=Zn.out;obtain ⟨ZJ,ZK,ZL,ZM,ZN,ZO⟩:=cz3 Zf.out;have ZW:=Zj.out;have ZX:=Zo.out;obtain ⟨Zx,Zy,Zz,ZA,ZB,ZC⟩:=cz3 Zg.out) | ((with_reducible refine gate_dst (N:=7) rfl ?_);refine Kd.N_lit k29 _ 29 ?hg (N':=7) ?hd (xs:=([(⟨a0_0,a0_1,l0_2⟩:S29),(⟨a1_0,a1_1,l1_2⟩:S29)]:List (S29))) (inner:=[.int .i64 a0_0,.int .i64 a0_1,.slice A0_2 l0_2.length c0_2,.int .i64 a1_0,.int .i64 a1_1,.slice A1_2 l1_2.length c1_2]) (ok:=(fun k_=>((P0_2_ k_ ∨ P1_2_ k_) ∨ w.heap.size ≤ k_)∧k_ ≠ Zb∧k_ ≠ Zc∧k_ ≠ Za)) (okp:=(fun k_=>((P0_2_ k_ ∨ P1_2_ k_) ∨ w.heap.size ≤ k_)∧k_ ≠ Zb∧k_ ≠ Zc∧k_ ≠ Za)) ?hr ?hp (fun _ hk=>hk) ((show ∀ k_,w5.heap.size ≤ k_ → (fun k_=>((P0_2_ k_ ∨ P1_2_ k_) ∨ w.heap.size ≤ k_)∧k_ ≠ Zb∧k_ ≠ Zc∧k_ ≠ Za) k_ from fun k_ hk=>⟨(.inr (Nat.le_trans (below_size bB) hk)),Kd.freshB (nB Zf.out) k_ hk,Kd.freshB (nB Zg.out) k_ hk,Kd.freshB (nB Zk.out) k_ hk⟩) _ (Nat.le_refl _)) (Below.refl _ _) (Nat.le_refl _) (by simp) ?_;(case hd=>rfl);(case hg=>rfl);(case hr=>first | (go_simp;done) | (go_simp;rfl));(case hp=>exact (Reps.c3 (show Kd.FK k29 _ _ (⟨a0_0,a0_1,l0_2⟩:S29) [.int .i64 a0_0,.int .i64 a0_1,.slice A0_2 l0_2.length c0_2] from (k29_mkF _ _ (⟨a0_0,a0_1,l0_2⟩:S29) (Kd.V_reads' (Kd.V_mono (ok':=(fun k_=>((P0_2_ k_ ∨ P1_2_ k_) ∨ w.heap.size ≤ k_)∧k_ ≠ Zb∧k_ ≠ Zc∧k_ ≠ Za)) (Zd.out) (fun k_ hk=>⟨hk.1.1.1,⟨hk.1.1.2,⟨hk.1.2,hk.2⟩⟩⟩))).2.1 (Kd.V_F (Kd.V_mono (ok':=(fun k_=>((P0_2_ k_ ∨ P1_2_ k_) ∨ w.heap.size ≤ k_)∧k_ ≠ Zb∧k_ ≠ Zc∧k_ ≠ Za)) (Zd.out) (fun k_ hk=>⟨hk.1.1.1,⟨hk.1.1.2,⟨hk.1.2,hk.2⟩⟩⟩))))) (Reps.c3 (show Kd.FK k29 _ _ (⟨a1_0,a1_1,l1_2⟩:S29) [.int .i64 a1_0,.int .i64 a1_1,.slice A1_2 l1_2.length c1_2] from (k29_mkF _ _ (⟨a1_0,a1_1,l1_2⟩:S29) (Kd.V_reads' (Kd.V_mono (ok':=(fun k_=>((P0_2_ k_ ∨ P1_2_ k_) ∨ w.heap.size ≤ k_)∧k_ ≠ Zb∧k_ ≠ Zc∧k_ ≠ Za)) (Ze.out) (fun k_ hk=>⟨hk.1.1.1,⟨hk.1.1.2,⟨hk.1.2,hk.2⟩⟩⟩))).2.1 (Kd.V_F (Kd.V_mono (ok':=(fun k_=>((P0_2_ k_ ∨ P1_2_ k_) ∨ w.heap.size ≤ k_)∧k_ ≠ Zb∧k_ ≠ Zc∧k_ ≠ Za)) (Ze.out) (fun k_ hk=>⟨hk.1.1.1,⟨hk.1.1.2,⟨hk.1.2,hk.2⟩⟩⟩))))) (Reps.none _ _))));intro v315 w11 ho12 hb hg_ hnew_;clear hg_ hnew_;(first | rw [← Zp.out] at ho12 | (simp only [Int.reduceToNat] at ho12;rw [← Zp.out] at ho12));replace Zd:=aQ (Kd.V_elder' (nV Zd.out) (Kd.N_base ho12) hb);replace Ze:=aQ (Kd.V_elder' (nV Ze.out) (Kd.N_base ho12) hb);have Zq:=aQ (Kd.N_lower ho12 (below_size bB));replace Zf:=aQ (blk_below (nB Zf.out) hb);replace Zg:=aQ (blk_below (nB Zg.out) hb);replace Zk:=aQ (blk_below (nB Zk.out) hb);replace HB:=aQ (below_step bB hb);clear hb ho12;obtain ⟨Zu,Zv,Zw⟩:=Kd.N_slice Zq.out;subst Zw;obtain ⟨ZD,ZE,ZF,ZG,ZH,ZI⟩:=cz3 Zk.out))
 refine bodyPost_ret (results_cell_row rfl _ _ Za 29 #[.int .i64 4,.int .i64 0,.slice Zu y314.length Zv] (0,0) _ rfl bP Try.underlying29 rfl (by kernel_rfl)) rfl ?_
 exact ⟨_,rfl,by (with_reducible repeat (first | apply Kd.N_alloc | apply Kd.N_drewN | apply Kd.N_drew));exact Kd.N_mono (nFN (g:=Za) Zq.out (fun k_ hk=>hk.2.2.2)) (fun _ hk=>hk.1),bB⟩
mutual
def impl_ticksOf.l0:Nat → List (S44) → List (S44) → List (S44) → List (S44) → Int → Int → Int → Int → List (S29) → Option ((List (S44)))
 | 0,_,_,_,_,_,_,_,_,_=>none
 | k + 1,x3,x4,x5,x52,x53,x54,x318000,x318001,x318002=>if x54 < x53 then (if 0 ≤ x54 then (if x54 < (x52.length:Int) then (if 1 < (x318002.length:Int) then ((impl_beside.f ((rd_T44 x52 x54).f1.f0) ((rd_T44 x52 x54).f1.f1) ((rd_T44 x52 x54).f1.f2) ((rd_T29 x318002 1).f0) ((rd_T29 x318002 1).f1) ((rd_T29 x318002 1).f2)).bind fun bt347=>(if x5.length < 2932031007402 then (impl_ticksOf.l0 k x3 x4 (x5 ++ [(⟨(rd_T44 x52 x54).f0,(⟨bt347.1,bt347.2.1,bt347.2.2⟩:S29)⟩:S44)]) x52 x53 (wrap64 (x54 + 1)) x318000 x318001 x318002) else (none))) else (none)) else (none)) else (none)) else (impl_ticksOf.l1 k x3 x4 x5 x4 (x4.length:Int) 0 x318000 x318001 x318002)
def impl_ticksOf.l1:Nat → List (S44) → List (S44) → List (S44) → List (S44) → Int → Int → Int → Int → List (S29) → Option ((List (S44)))
 | 0,_,_,_,_,_,_,_,_,_=>none
 | k + 1,x3,x4,x5,x72,x73,x74,x318000,x318001,x318002=>if x74 < x73 then (if 0 ≤ x74 then (if x74 < (x72.length:Int) then (if 0 < (x318002.length:Int) then ((impl_beside.f ((rd_T29 x318002 0).f0) ((rd_T29 x318002 0).f1) ((rd_T29 x318002 0).f2) ((rd_T44 x72 x74).f1.f0) ((rd_T44 x72 x74).f1.f1) ((rd_T44 x72 x74).f1.f2)).bind fun bt358=>(if x5.length < 2932031007402 then (impl_ticksOf.l1 k x3 x4 (x5 ++ [(⟨(rd_T44 x72 x74).f0,(⟨bt358.1,bt358.2.1,bt358.2.2⟩:S29)⟩:S44)]) x72 x73 (wrap64 (x74 + 1)) x318000 x318001 x318002) else (none))) else (none)) else (none)) else (none)) else (impl_ticksOf.l2 k x4 x5 x3 (x3.length:Int) 0)
def impl_ticksOf.l2:Nat → List (S44) → List (S44) → List (S44) → Int → Int → Option ((List (S44)))
 | 0,_,_,_,_,_=>none
 | k + 1,x4,x5,x92,x93,x94=>if x94 < x93 then (if 0 ≤ x94 then (if x94 < (x92.length:Int) then (impl_ticksOf.l3 k x4 x5 x92 x93 x94 x4 (x4.length:Int) 0 ((rd_T44 x92 x94).f0) ((rd_T44 x92 x94).f1.f0) ((rd_T44 x92 x94).f1.f1) ((rd_T44 x92 x94).f1.f2)) else (none)) else (none)) else (some x5)
def impl_ticksOf.l3:Nat → List (S44) → List (S44) → List (S44) → Int → Int → List (S44) → Int → Int → Int → Int → Int → List (S29) → Option ((List (S44)))
 | 0,_,_,_,_,_,_,_,_,_,_,_,_=>none
 | k + 1,x4,x5,x92,x93,x94,x98,x99,x100,x368000,x368001,x368002,x368003=>if x100 < x99 then (if 0 ≤ x100 then (if x100 < (x98.length:Int) then (if x368000 = 0 then (impl_ticksOf.l3 k x4 x5 x92 x93 x94 x98 x99 (wrap64 (x100 + 1)) x368000 x368001 x368002 x368003) else (if x368000 = (wrap64 (-((rd_T44 x98 x100).f0))) then ((impl_beside.f x368001 x368002 x368003 ((rd_T44 x98 x100).f1.f0) ((rd_T44 x98 x100).f1.f1) ((rd_T44 x98 x100).f1.f2)).bind fun bt370=>(if x5.length < 2932031007402 then (impl_ticksOf.l3 k x4 (x5 ++ [(⟨0,(⟨bt370.1,bt370.2.1,bt370.2.2⟩:S29)⟩:S44)]) x92 x93 x94 x98 x99 (wrap64 (x100 + 1)) x368000 x368001 x368002 x368003) else (none))) else (impl_ticksOf.l3 k x4 x5 x92 x93 x94 x98 x99 (wrap64 (x100 + 1)) x368000 x368001 x368002 x368003))) else (none)) else (none)) else (impl_ticksOf.l2 k x4 x5 x92 x93 (wrap64 (x94 + 1)))
def impl_ticksOf.f:Nat → Int → Int → List (S29) → Option ((List (S44)))
 | 0,_,_,_=>none
 | k + 1,a0_0,a0_1,l0_2=>if a0_0 = 1 then (if 0 < (l0_2.length:Int) then (some (([(⟨a0_1,(⟨(rd_T29 l0_2 0).f0,(rd_T29 l0_2 0).f1,(rd_T29 l0_2 0).f2⟩:S29)⟩:S44)]:List (S44)))) else (none)) else (if a0_0 = 3 then (if 0 < (l0_2.length:Int) then ((impl_ticksOf.f k ((rd_T29 l0_2 0).f0) ((rd_T29 l0_2 0).f1) ((rd_T29 l0_2 0).f2)).bind fun t323=>(if 1 < (l0_2.length:Int) then ((impl_ticksOf.f k ((rd_T29 l0_2 1).f0) ((rd_T29 l0_2 1).f1) ((rd_T29 l0_2 1).f2)).bind fun t327=>(if t323.length + t327.length < 2932031007402 then (some (t323 ++ t327)) else (none))) else (none))) else (none)) else (if a0_0 = 4 then (if 0 < (l0_2.length:Int) then ((impl_ticksOf.f k ((rd_T29 l0_2 0).f0) ((rd_T29 l0_2 0).f1) ((rd_T29 l0_2 0).f2)).bind fun t334=>(if 1 < (l0_2.length:Int) then ((impl_ticksOf.f k ((rd_T29 l0_2 1).f0) ((rd_T29 l0_2 1).f1) ((rd_T29 l0_2 1).f2)).bind fun t338=>(impl_ticksOf.l0 k t334 t338 (([]:List (S44))) t334 (t334.length:Int) 0 a0_0 a0_1 l0_2)) else (none))) else (none)) else (some ([]:List (S44)))))
end
theorem impl_ticksOf.mono_l:∀ k,(∀ y0 y1 y2,LeO (impl_ticksOf.f k y0 y1 y2) (impl_ticksOf.f (k + 1) y0 y1 y2))∧(∀ y0 y1 y2 y3 y4 y5 y6 y7 y8,LeO (impl_ticksOf.l0 k y0 y1 y2 y3 y4 y5 y6 y7 y8) (impl_ticksOf.l0 (k + 1) y0 y1 y2 y3 y4 y5 y6 y7 y8))∧(∀ y0 y1 y2 y3 y4 y5 y6 y7 y8,LeO (impl_ticksOf.l1 k y0 y1 y2 y3 y4 y5 y6 y7 y8) (impl_ticksOf.l1 (k + 1) y0 y1 y2 y3 y4 y5 y6 y7 y8))∧(∀ y0 y1 y2 y3 y4,LeO (impl_ticksOf.l2 k y0 y1 y2 y3 y4) (impl_ticksOf.l2 (k + 1) y0 y1 y2 y3 y4))∧(∀ y0 y1 y2 y3 y4 y5 y6 y7 y8 y9 y10 y11,LeO (impl_ticksOf.l3 k y0 y1 y2 y3 y4 y5 y6 y7 y8 y9 y10 y11) (impl_ticksOf.l3 (k + 1) y0 y1 y2 y3 y4 y5 y6 y7 y8 y9 y10 y11))
 | 0=>⟨fun _ _ _ r h=>by simp [impl_ticksOf.f] at h,fun _ _ _ _ _ _ _ _ _ r h=>by simp [impl_ticksOf.l0] at h,fun _ _ _ _ _ _ _ _ _ r h=>by simp [impl_ticksOf.l1] at h,fun _ _ _ _ _ r h=>by simp [impl_ticksOf.l2] at h,fun _ _ _ _ _ _ _ _ _ _ _ _ r h=>by simp [impl_ticksOf.l3] at h⟩
 | k + 1=>by
  obtain ⟨ih0,ih1,ih2,ih3,ih4⟩:=impl_ticksOf.mono_l k
  refine ⟨?_,?_,?_,?_,?_⟩
  ·intro y0 y1 y2
   unfold impl_ticksOf.f
   repeat' first
   | (with_reducible exact ih0 _ _ _)
   | (with_reducible exact ih1 _ _ _ _ _ _ _ _ _)
   | (with_reducible exact ih2 _ _ _ _ _ _ _ _ _)
   | (with_reducible exact ih3 _ _ _ _ _)
   | (with_reducible exact ih4 _ _ _ _ _ _ _ _ _ _ _ _)
   | (with_reducible exact LeO.refl _)
   | (with_reducible exact LeO.none _)
   | (with_reducible refine LeO.ite ?_ ?_)
   | (with_reducible refine LeO.bind ?_ (fun _=>?_))
   | exact ih0 _ _ _
   | exact ih1 _ _ _ _ _ _ _ _ _
   | exact ih2 _ _ _ _ _ _ _ _ _
   | exact ih3 _ _ _ _ _
   | exact ih4 _ _ _ _ _ _ _ _ _ _ _ _
   | exact LeO.none _
   | refine LeO.ite ?_ ?_
   | refine LeO.bind ?_ (fun _=>?_)
  ·intro y0 y1 y2 y3 y4 y5 y6 y7 y8
   unfold impl_ticksOf.l0
   repeat' first
   | (with_reducible exact ih0 _ _ _)
   | (with_reducible exact ih1 _ _ _ _ _ _ _ _ _)
   | (with_reducible exact ih2 _ _ _ _ _ _ _ _ _)
   | (with_reducible exact ih3 _ _ _ _ _)
   | (with_reducible exact ih4 _ _ _ _ _ _ _ _ _ _ _ _)
   | (with_reducible exact LeO.refl _)
   | (with_reducible exact LeO.none _)
   | (with_reducible refine LeO.ite ?_ ?_)
   | (with_reducible refine LeO.bind ?_ (fun _=>?_))
   | exact ih0 _ _ _
   | exact ih1 _ _ _ _ _ _ _ _ _
   | exact ih2 _ _ _ _ _ _ _ _ _
   | exact ih3 _ _ _ _ _
   | exact ih4 _ _ _ _ _ _ _ _ _ _ _ _
   | exact LeO.none _
   | refine LeO.ite ?_ ?_
   | refine LeO.bind ?_ (fun _=>?_)
  ·intro y0 y1 y2 y3 y4 y5 y6 y7 y8
   unfold impl_ticksOf.l1
   repeat' first
   | (with_reducible exact ih0 _ _ _)
   | (with_reducible exact ih1 _ _ _ _ _ _ _ _ _)
   | (with_reducible exact ih2 _ _ _ _ _ _ _ _ _)
   | (with_reducible exact ih3 _ _ _ _ _)
   | (with_reducible exact ih4 _ _ _ _ _ _ _ _ _ _ _ _)
   | (with_reducible exact LeO.refl _)
   | (with_reducible exact LeO.none _)
   | (with_reducible refine LeO.ite ?_ ?_)
   | (with_reducible refine LeO.bind ?_ (fun _=>?_))
   | exact ih0 _ _ _
   | exact ih1 _ _ _ _ _ _ _ _ _
   | exact ih2 _ _ _ _ _ _ _ _ _
   | exact ih3 _ _ _ _ _
   | exact ih4 _ _ _ _ _ _ _ _ _ _ _ _
   | exact LeO.none _
   | refine LeO.ite ?_ ?_
   | refine LeO.bind ?_ (fun _=>?_)
  ·intro y0 y1 y2 y3 y4
   unfold impl_ticksOf.l2
   repeat' first
   | (with_reducible exact ih0 _ _ _)
   | (with_reducible exact ih1 _ _ _ _ _ _ _ _ _)
   | (with_reducible exact ih2 _ _ _ _ _ _ _ _ _)
   | (with_reducible exact ih3 _ _ _ _ _)
   | (with_reducible exact ih4 _ _ _ _ _ _ _ _ _ _ _ _)
   | (with_reducible exact LeO.refl _)
   | (with_reducible exact LeO.none _)
   | (with_reducible refine LeO.ite ?_ ?_)
   | (with_reducible refine LeO.bind ?_ (fun _=>?_))
   | exact ih0 _ _ _
   | exact ih1 _ _ _ _ _ _ _ _ _
   | exact ih2 _ _ _ _ _ _ _ _ _
   | exact ih3 _ _ _ _ _
   | exact ih4 _ _ _ _ _ _ _ _ _ _ _ _
   | exact LeO.none _
   | refine LeO.ite ?_ ?_
   | refine LeO.bind ?_ (fun _=>?_)
  ·intro y0 y1 y2 y3 y4 y5 y6 y7 y8 y9 y10 y11
   unfold impl_ticksOf.l3
   repeat' first
   | (with_reducible exact ih0 _ _ _)
   | (with_reducible exact ih1 _ _ _ _ _ _ _ _ _)
   | (with_reducible exact ih2 _ _ _ _ _ _ _ _ _)
   | (with_reducible exact ih3 _ _ _ _ _)
   | (with_reducible exact ih4 _ _ _ _ _ _ _ _ _ _ _ _)
   | (with_reducible exact LeO.refl _)
   | (with_reducible exact LeO.none _)
   | (with_reducible refine LeO.ite ?_ ?_)
   | (with_reducible refine LeO.bind ?_ (fun _=>?_))
   | exact ih0 _ _ _
   | exact ih1 _ _ _ _ _ _ _ _ _
   | exact ih2 _ _ _ _ _ _ _ _ _
   | exact ih3 _ _ _ _ _
   | exact ih4 _ _ _ _ _ _ _ _ _ _ _ _
   | exact LeO.none _
   | refine LeO.ite ?_ ?_
   | refine LeO.bind ?_ (fun _=>?_)
theorem impl_ticksOf.mono:∀ a0 a1 a2 k,LeO (impl_ticksOf.f k a0 a1 a2) (impl_ticksOf.f (k + 1) a0 a1 a2):=by
 intro a0 a1 a2 k
 obtain ⟨ih0,ih1,ih2,ih3,ih4⟩:=impl_ticksOf.mono_l k
 exact ih0 a0 a1 a2
def impl_ticksOf.T3:Bool × List (List Nat × List Nat):=(true,[([],[]),([0],[0]),([],[]),([2],[2]),([3],[3]),([4],[4]),([1,5],[1,5]),([6],[6]),([7,0,1,2,3,4,5,6,7],[7])])
def impl_ticksOf.B3:List Nat:=[0,1,0,4,12,28,63,127,255]
theorem impl_ticksOf.tab3:rtab .any (opsOf Try.f47 3) = impl_ticksOf.T3:=by kernel_rfl
theorem impl_ticksOf.bits3:waitsOk impl_ticksOf.T3.2 impl_ticksOf.B3 = true:=by kernel_rfl
def impl_ticksOf.T5:Bool × List (List Nat × List Nat):=(true,[([],[]),([0],[0]),([1],[1]),([2],[2]),([3],[3]),([],[]),([5],[5]),([6],[6]),([7],[7]),([8,4],[8]),([4,9,9],[4,9]),([10,10,0,1,2,3,4,5,6,7,8,9,10],[10])])
def impl_ticksOf.B5:List Nat:=[0,1,3,7,15,0,32,96,224,511,1023,2047]
theorem impl_ticksOf.tab5:rtab .any (opsOf Try.f47 5) = impl_ticksOf.T5:=by kernel_rfl
theorem impl_ticksOf.bits5:waitsOk impl_ticksOf.T5.2 impl_ticksOf.B5 = true:=by kernel_rfl
def impl_ticksOf.T7:Bool × List (List Nat × List Nat):=(true,[([],[]),([0],[0]),([1],[1]),([2],[2]),([3],[3]),([],[]),([5],[5]),([6],[6]),([7],[7]),([8,4],[8]),([4,9,0,1,2,3,4],[4]),([9,10,0,1,2,3,4,5,6,7,8,9,10],[9])])
def impl_ticksOf.B7:List Nat:=[0,1,3,7,15,0,32,96,224,511,1023,2047]
theorem impl_ticksOf.tab7:rtab .any (opsOf Try.f47 7) = impl_ticksOf.T7:=by kernel_rfl
theorem impl_ticksOf.bits7:waitsOk impl_ticksOf.T7.2 impl_ticksOf.B7 = true:=by kernel_rfl
def impl_ticksOf.T12:Bool × List (List Nat × List Nat):=(true,[([],[]),([],[]),([1],[1]),([],[]),([3],[3]),([],[]),([5],[5]),([6],[6]),([7],[7]),([4,8],[4,8]),([2,9],[2,9]),([10],[10]),([0,11,9],[0,11]),([12,12,0,1,2,3,4,5,6,7,8,9,10,11,12],[0,12])])
def impl_ticksOf.B12:List Nat:=[0,0,2,0,8,0,32,96,224,504,1022,2046,4095,8191]
theorem impl_ticksOf.tab12:rtab .any (opsOf Try.f47 12) = impl_ticksOf.T12:=by kernel_rfl
theorem impl_ticksOf.bits12:waitsOk impl_ticksOf.T12.2 impl_ticksOf.B12 = true:=by kernel_rfl
def impl_ticksOf.T17:Bool × List (List Nat × List Nat):=(true,[([],[]),([],[]),([1],[1]),([],[]),([3],[3]),([4],[4]),([5],[5]),([],[]),([7],[7]),([6,8],[6,8]),([2,9],[2,9]),([10],[10]),([0,11,9],[0,11]),([12,12,0,1,2,3,4,5,6,7,8,9,10,11,12],[0,12])])
def impl_ticksOf.B17:List Nat:=[0,0,2,0,8,24,56,0,128,504,1022,2046,4095,8191]
theorem impl_ticksOf.tab17:rtab .any (opsOf Try.f47 17) = impl_ticksOf.T17:=by kernel_rfl
theorem impl_ticksOf.bits17:waitsOk impl_ticksOf.T17.2 impl_ticksOf.B17 = true:=by kernel_rfl
set_option maxHeartbeats 8000000 in
set_option maxRecDepth 100000 in
theorem impl_ticksOf.calls (k:Nat):∀ (a0_0:Int) (a0_1:Int) (P0_2_:Nat → Prop) (A0_2:Option Addr) (c0_2:Nat) (l0_2:List (S29)) (r:List (S44)) (w:World) (hs0_2:Kd.V k29 29 w w.heap.size (fun k_=>P0_2_ k_) (.slice A0_2 l0_2.length c0_2) l0_2) (h:impl_ticksOf.f k a0_0 a0_1 l0_2 = some r),
  Calls Try.prog 47 #[.agg #[.int .i64 a0_0,.int .i64 a0_1,.slice A0_2 l0_2.length c0_2]] w fun e w'=>∃ v0_:Value,e = .returned (v0_)∧Kd.N k44 44 w' w.heap.size (fun k_=>(P0_2_ k_ ∨ w.heap.size ≤ k_)) v0_ r∧Below w.heap.size w w':=by
 induction k using Nat.strongRecOn with
 | _ k ih =>
 intro a0_0 a0_1 P0_2_ A0_2 c0_2 l0_2 r w hs0_2 h
 cases k with
 | zero=>exact absurd h (by simp [impl_ticksOf.f])
 | succ k =>
 simp only [impl_ticksOf.f] at h
 have hu29:=Try.underlying29
 have hu44:=Try.underlying44
 have Zl:=aQ (show Kd.V k29 29 w w.heap.size (fun k_=>(P0_2_ k_ ∨ w.heap.size ≤ k_)) (.slice A0_2 l0_2.length c0_2) l0_2 from Kd.V_mono hs0_2 (fun k_ hk=>.inl hk))
 have HB:=aQ (Below.refl w.heap.size w)
 have H:=h
 clear h
 by_cases c2:a0_0 = 1
 ·rw [if_pos c2] at H
  have c2b0:(a0_0 == 1) = true:=beq_iff_eq.mpr c2
  have c2b1:(a0_0 != 1) = false:=bne_eq_false_iff_eq.mpr c2
  clear c2
  by_cases c3:0 < (l0_2.length:Int);rotate_left
  ·rw [if_neg c3] at H
   exact absurd H (by simp)
  rw [if_pos c3] at H
  have c3b0:decide (0 < (l0_2.length:Int)) = true:=decide_eq_true c3
  have c3b1:decide (0 < l0_2.length) = true:=decide_eq_true (by omega)
  clear c3
  obtain ⟨y319,Wj⟩:∃ y_:List (S44),y_ = (([(⟨a0_1,(⟨(rd_T29 l0_2 0).f0,(rd_T29 l0_2 0).f1,(rd_T29 l0_2 0).f2⟩:S29)⟩:S44)]:List (S44))):=⟨_,rfl⟩
  replace H:(some y319) = some r:=by rw [Wj];exact H
  have WE:=aQ Wj
  clear Wj
  obtain rfl:=Option.some.inj H
  go_enter Try.func47,Try.ntmps47
  try go_wp2_with (first | ((with_reducible refine gate_dst (N:=1) rfl ?_);refine box1 (N:=1) (cs:=#[.int .i64 a0_0,.int .i64 a0_1,.slice A0_2 l0_2.length c0_2]) (t:=29) ?_;intro Zb hg w4 hbox hb;replace Zl:=aQ (Kd.V_below (Kd.V_elderB (nV Zl.out) Zb (Nat.le_of_eq hg.symm)) hb);have Za:=aQ (hbox);have Yt:=aQ (gB:w.heap.size ≤ Zb);have Wk:=Yt;replace HB:=aQ (below_step bB hb);clear hb hbox hg;obtain ⟨Si,Sj,Sk,Sl,Sm,Sn⟩:=cz3 Za.out))
  replace Zl:=aQ (Kd.V_drew Zl.out)
  replace Za:=aQ (blk_drew Za.out)
  replace HB:=aQ (below_drew1 HB.out)
  have p318:0 ≤ (0:Int):=(by omega)
  have q318:0 < (l0_2.length:Int):=of_decide_eq_true (by first | (with_reducible assumption) | assumption)
  obtain ⟨Yw,A318_2,c318_2,e318,Yx,Yy,Yg,XF,XG⟩:=at_T29 (Kd.V_reads' Zl.out).2.2 0 p318 q318
  cases e318
  obtain ⟨So,Vb,Vc,Wq⟩:=Kd.V_get Zl.out z29 0 p318 (by first | exact q318 | exact of_decide_eq_true (by first | (with_reducible assumption) | assumption) | (have e_:=(Kd.V_reads' Zl.out).1;omega))
  obtain ⟨VY,VZ,rfl,Xb,Xc⟩:=k29_openF Vc
  have Yz:=Wq 2 _ rfl
  rw [add_field _ _ 2 (by omega)] at Yz
  replace Yz:=Option.some.inj (Yz.symm.trans Yg)
  injection Yz with hva_ hvn_ hvc_
  rw [hva_] at Xc
  rw [hvc_] at Xb
  have Yh:=aQ (show Kd.V k29 29 _ w.heap.size _ _ ((rd_T29 l0_2 0).f2) from Kd.V_mk Xb Xc)
  clear hva_ hvn_ hvc_ Xc Xb
  clear Wq Vb
  have qi318:(0 < l0_2.length) = True:=eq_true (by omega)
  (try rw [show ((0:Int)).toNat = 0 from rfl,show 0 * 3 = 0 from rfl] at Yx Yy Yg)
  (try rw [Addr.add_zero'] at Yx)
  (try rw [Addr.add_zero'] at Yy)
  (try rw [Addr.add_zero'] at Yg)
  have Xd:=aQ XG
  have Ua:=aQ XF
  clear XG XF
  replace p318:=eq_true p318
  replace q318:=eq_true q318
  refine start_ (n:=9) (S:=fun w'=>w'.cell? ⟨Zb,0,none⟩ = some (.int .i64 a0_0)∧w'.cell? ⟨Zb,1,none⟩ = some (.int .i64 a0_1)∧w'.cell? ⟨Zb,2,none⟩ = some (.slice (some Yw) l0_2.length c0_2)∧w'.cell? Yw = some (.int .i64 ((rd_T29 l0_2 0).f0))∧w'.cell? ⟨Yw.block,Yw.off + 1,none⟩ = some (.int .i64 ((rd_T29 l0_2 0).f1))∧w'.cell? ⟨Yw.block,Yw.off + 2,none⟩ = some (.slice A318_2 ((rd_T29 l0_2 0).f2).length c318_2)) (ds:=[]) (bn 9 0) (by kernel_rfl) rfl rfl ⟨(blk_cell Za.out 0).trans rfl,(blk_cell Za.out 1).trans rfl,(blk_cell Za.out 2).trans rfl,Yx,Yy,Yg⟩ (fun hHeld=>?_);refine with_tabW impl_ticksOf.tab3 impl_ticksOf.bits3 (fun HT_ HW_=>?_)
  generalize w4.drew = w6 at Zl Za HB Yh Xd Yx Yy Yg hHeld ⊢
  refine pur (i:=0) (N:=some 18) (bn 9 1) ?_
  refine pur (i:=2) (N:=some 20) (bn 9 5) ?_
  refine tak (i:=1) (N:=some 19) (bn 9 7) ?_
  refine tak (i:=3) (N:=some 21) (bn 9 15) ?_
  refine pur (i:=4) (N:=some 22) (bn 9 31) ?_
  refine tak (i:=5) (N:=some 23) (bn 9 63) ?_
  refine pur (i:=6) (N:=some 24) (bn 9 127) ?_
  refine one_ (i:=7) (N:=some 25) (bn 9 255) rfl rfl (one_of HT_.out (by kernel_rfl)) (by decide) (fun K hK=>?_)
  refine Kd.N_lit_step k44 _ 44 ?hg (N':=25) ?hd (xs:=([(⟨a0_1,(⟨(rd_T29 l0_2 0).f0,(rd_T29 l0_2 0).f1,(rd_T29 l0_2 0).f2⟩:S29)⟩:S44)]:List (S44))) (inner:=[.int .i64 a0_1,.int .i64 ((rd_T29 l0_2 0).f0),.int .i64 ((rd_T29 l0_2 0).f1),.slice A318_2 ((rd_T29 l0_2 0).f2).length c318_2]) (ok:=(fun k_=>(P0_2_ k_ ∨ w.heap.size ≤ k_)∧k_ ≠ Zb)) (okp:=(fun k_=>(P0_2_ k_ ∨ w.heap.size ≤ k_)∧k_ ≠ Zb)) ?hr ?hp (fun _ hk=>hk) ((show ∀ k_,w6.heap.size ≤ k_ → (fun k_=>(P0_2_ k_ ∨ w.heap.size ≤ k_)∧k_ ≠ Zb) k_ from fun k_ hk=>⟨(.inr (Nat.le_trans (below_size bB) hk)),Kd.freshB (nB Za.out) k_ hk⟩) _ (Nat.le_refl _)) (Below.refl _ _) (Nat.le_refl _) (by simp) ?_;(case hd=>rfl);(case hg=>rfl);(case hr=>first | (go_simp;done) | (go_simp;rfl));(case hp=>exact (Reps.c4 (show Kd.FK k44 _ _ (⟨a0_1,(⟨(rd_T29 l0_2 0).f0,(rd_T29 l0_2 0).f1,(rd_T29 l0_2 0).f2⟩:S29)⟩:S44) [.int .i64 a0_1,.int .i64 ((rd_T29 l0_2 0).f0),.int .i64 ((rd_T29 l0_2 0).f1),.slice A318_2 ((rd_T29 l0_2 0).f2).length c318_2] from (k44_mkF _ _ (⟨a0_1,(⟨(rd_T29 l0_2 0).f0,(rd_T29 l0_2 0).f1,(rd_T29 l0_2 0).f2⟩:S29)⟩:S44) (Kd.V_reads' (Kd.V_mono (ok':=(fun k_=>(P0_2_ k_ ∨ w.heap.size ≤ k_)∧k_ ≠ Zb)) (Yh.out) (fun k_ hk=>⟨hk.1,hk.2⟩))).2.1 (Kd.V_F (Kd.V_mono (ok':=(fun k_=>(P0_2_ k_ ∨ w.heap.size ≤ k_)∧k_ ≠ Zb)) (Yh.out) (fun k_ hk=>⟨hk.1,hk.2⟩))))) (Reps.none _ _)))
  intro v320 w7 ho8 hb hg_ hnew_
  have HS3_:=(hb.cell (World.block_lt_of_cell? _ _ (hHeld.2.2.2.1))).trans (hHeld.2.2.2.1)
  have HS4_:=(hb.cell (World.block_lt_of_cell? _ _ (hHeld.2.2.2.2.1))).trans (hHeld.2.2.2.2.1)
  have HS5_:=(hb.cell (World.block_lt_of_cell? _ _ (hHeld.2.2.2.2.2))).trans (hHeld.2.2.2.2.2)
  clear hg_ hnew_
  (first | rw [← WE.out] at ho8 | (simp only [Int.reduceToNat] at ho8;rw [← WE.out] at ho8))
  replace Zl:=aQ (Kd.V_elder' (nV Zl.out) (Kd.N_base ho8) hb)
  replace Yh:=aQ (Kd.V_elder' (nV Yh.out) (Kd.N_base ho8) hb)
  have Vy:=aQ (Kd.N_lower ho8 (below_size bB))
  replace Za:=aQ (blk_below (nB Za.out) hb)
  replace Xd:=aQ (Kd.C_below (nC Xd.out) hb)
  replace HB:=aQ (below_step bB hb)
  clear hb ho8
  refine hK.out _ _ ⟨(blk_cell Za.out 0).trans rfl,(blk_cell Za.out 1).trans rfl,(blk_cell Za.out 2).trans rfl,HS3_,HS4_,HS5_⟩ (fun hHeld=>?_)
  clear hK K
  refine nrm (N:=some 25) ?_
  refine pur (i:=8) (N:=some 2) (bn 9 511) ?_
  refine done_ (done_of HT_.out (by kernel_rfl)) ?_
  try go_wp2
  go_ret
  exact ⟨_,rfl,by (with_reducible repeat (first | apply Kd.N_alloc | apply Kd.N_drewN | apply Kd.N_drew));exact Kd.N_mono Vy.out (fun _ hk=>hk.1),bB⟩
 rw [if_neg c2] at H
 have c2b0:(a0_0 == 1) = false:=beq_eq_false_iff_ne.mpr c2
 have c2b1:(a0_0 != 1) = true:=bne_iff_ne.mpr c2
 by_cases c9:a0_0 = 3
 ·rw [if_pos c9] at H
  have c9b0:(a0_0 == 3) = true:=beq_iff_eq.mpr c9
  have c9b1:(a0_0 != 3) = false:=bne_eq_false_iff_eq.mpr c9
  clear c9
  by_cases c10:0 < (l0_2.length:Int);rotate_left
  ·rw [if_neg c10] at H
   exact absurd H (by simp)
  rw [if_pos c10] at H
  have c10b0:decide (0 < (l0_2.length:Int)) = true:=decide_eq_true c10
  have c10b1:decide (0 < l0_2.length) = true:=decide_eq_true (by omega)
  clear c10
  obtain ⟨t323,A11,H⟩:=bQ H
  (try dsimp only at H)
  by_cases c12:1 < (l0_2.length:Int);rotate_left
  ·rw [if_neg c12] at H
   exact absurd H (by simp)
  rw [if_pos c12] at H
  have c12b0:decide (1 < (l0_2.length:Int)) = true:=decide_eq_true c12
  have c12b1:decide (1 < l0_2.length) = true:=decide_eq_true (by omega)
  clear c12
  obtain ⟨t327,A13,H⟩:=bQ H
  (try dsimp only at H)
  by_cases c14:t323.length + t327.length < 2932031007402;rotate_left
  ·rw [if_neg c14] at H
   exact absurd H (by simp)
  rw [if_pos c14] at H
  have LMc14:=aQ c14
  clear c14
  obtain ⟨y330,Wl⟩:∃ y_:List (S44),y_ = (t323 ++ t327):=⟨_,rfl⟩
  replace H:(some y330) = some r:=by rw [Wl];exact H
  have Vz:=aQ Wl
  clear Wl
  obtain rfl:=Option.some.inj H
  go_enter Try.func47,Try.ntmps47
  try go_wp2_with (first | ((with_reducible refine gate_dst (N:=1) rfl ?_);refine box1 (N:=1) (cs:=#[.int .i64 a0_0,.int .i64 a0_1,.slice A0_2 l0_2.length c0_2]) (t:=29) ?_;intro Zb hg w15 hbox hb;replace Zl:=aQ (Kd.V_below (Kd.V_elderB (nV Zl.out) Zb (Nat.le_of_eq hg.symm)) hb);have Za:=aQ (hbox);have Yt:=aQ (gB:w.heap.size ≤ Zb);have Wk:=Yt;replace HB:=aQ (below_step bB hb);clear hb hbox hg;obtain ⟨Ub,Uc,Ud,Ue,Uf,Ug⟩:=cz3 Za.out))
  replace Zl:=aQ (Kd.V_drew Zl.out)
  replace Za:=aQ (blk_drew Za.out)
  replace HB:=aQ (below_drew1 HB.out)
  have p322:0 ≤ (0:Int):=(by omega)
  have q322:0 < (l0_2.length:Int):=of_decide_eq_true (by first | (with_reducible assumption) | assumption)
  obtain ⟨ZL,A322_2,c322_2,e322,YA,YB,Yi,XH,XI⟩:=at_T29 (Kd.V_reads' Zl.out).2.2 0 p322 q322
  cases e322
  obtain ⟨Sp,Vd,Ve,Wr⟩:=Kd.V_get Zl.out z29 0 p322 (by first | exact q322 | exact of_decide_eq_true (by first | (with_reducible assumption) | assumption) | (have e_:=(Kd.V_reads' Zl.out).1;omega))
  obtain ⟨Uh,Ui,rfl,Xe,Xf⟩:=k29_openF Ve
  have YC:=Wr 2 _ rfl
  rw [add_field _ _ 2 (by omega)] at YC
  replace YC:=Option.some.inj (YC.symm.trans Yi)
  injection YC with hva_ hvn_ hvc_
  rw [hva_] at Xf
  rw [hvc_] at Xe
  have ZM:=aQ (show Kd.V k29 29 _ w.heap.size _ _ ((rd_T29 l0_2 0).f2) from Kd.V_mk Xe Xf)
  clear hva_ hvn_ hvc_ Xf Xe
  clear Wr Vd
  have qi322:(0 < l0_2.length) = True:=eq_true (by omega)
  (try rw [show ((0:Int)).toNat = 0 from rfl,show 0 * 3 = 0 from rfl] at YA YB Yi)
  (try rw [Addr.add_zero'] at YA)
  (try rw [Addr.add_zero'] at YB)
  (try rw [Addr.add_zero'] at Yi)
  have Yj:=aQ XI
  have Uj:=aQ XH
  clear XI XH
  replace p322:=eq_true p322
  replace q322:=eq_true q322
  have p326:0 ≤ (1:Int):=(by omega)
  have q326:1 < (l0_2.length:Int):=of_decide_eq_true (by first | (with_reducible assumption) | assumption)
  obtain ⟨VA,A326_2,c326_2,e326,YD,YE,Yk,XJ,XK⟩:=at_T29 (Kd.V_reads' Zl.out).2.2 1 p326 q326
  obtain rfl:ZL = VA:=(by injection e326)
  obtain ⟨Sq,Vf,Vg,Ws⟩:=Kd.V_get Zl.out z29 1 p326 (by first | exact q326 | exact of_decide_eq_true (by first | (with_reducible assumption) | assumption) | (have e_:=(Kd.V_reads' Zl.out).1;omega))
  obtain ⟨Uk,Ul,rfl,Xg,Xh⟩:=k29_openF Vg
  have YF:=Ws 2 _ rfl
  rw [add_field _ _ 2 (by omega)] at YF
  replace YF:=Option.some.inj (YF.symm.trans Yk)
  injection YF with hva_ hvn_ hvc_
  rw [hva_] at Xh
  rw [hvc_] at Xg
  have ZN:=aQ (show Kd.V k29 29 _ w.heap.size _ _ ((rd_T29 l0_2 1).f2) from Kd.V_mk Xg Xh)
  clear hva_ hvn_ hvc_ Xh Xg
  clear Ws Vf
  (try simp only [show (1:Int).toNat = 1 from rfl,Nat.reduceMul,Nat.reduceEqDiff,Go.Addr.add,↓reduceIte] at YD)
  (try simp only [show (1:Int).toNat = 1 from rfl,Nat.reduceMul,Nat.reduceEqDiff,Go.Addr.add,↓reduceIte] at YE)
  (try simp only [show (1:Int).toNat = 1 from rfl,Nat.reduceMul,Nat.reduceEqDiff,Go.Addr.add,↓reduceIte] at Yk)
  have qi326:(1 < l0_2.length) = True:=eq_true (by omega)
  (try rw [show ((1:Int)).toNat = 1 from rfl,show 1 * 3 = 3 from rfl] at YD YE Yk)
  have Yl:=aQ XK
  have Um:=aQ XJ
  clear XK XJ
  replace p326:=eq_true p326
  replace q326:=eq_true q326
  refine start_ (n:=12) (S:=fun w'=>w'.cell? ⟨Zb,0,none⟩ = some (.int .i64 a0_0)∧w'.cell? ⟨Zb,1,none⟩ = some (.int .i64 a0_1)∧w'.cell? ⟨Zb,2,none⟩ = some (.slice (some ZL) l0_2.length c0_2)∧w'.cell? ZL = some (.int .i64 ((rd_T29 l0_2 0).f0))∧w'.cell? ⟨ZL.block,ZL.off + 1,none⟩ = some (.int .i64 ((rd_T29 l0_2 0).f1))∧w'.cell? ⟨ZL.block,ZL.off + 2,none⟩ = some (.slice A322_2 ((rd_T29 l0_2 0).f2).length c322_2)∧w'.cell? ⟨ZL.block,ZL.off + 3,none⟩ = some (.int .i64 ((rd_T29 l0_2 1).f0))∧w'.cell? ⟨ZL.block,ZL.off + 3 + 1,none⟩ = some (.int .i64 ((rd_T29 l0_2 1).f1))∧w'.cell? ⟨ZL.block,ZL.off + 3 + 2,none⟩ = some (.slice A326_2 ((rd_T29 l0_2 1).f2).length c326_2)) (ds:=[10]) (bn 12 0) (by kernel_rfl) rfl rfl ⟨(blk_cell Za.out 0).trans rfl,(blk_cell Za.out 1).trans rfl,(blk_cell Za.out 2).trans rfl,YA,YB,Yi,YD,YE,Yk⟩ (fun hHeld=>?_);refine with_tabW impl_ticksOf.tab5 impl_ticksOf.bits5 (fun HT_ HW_=>?_)
  generalize w15.drew = w17 at Zl Za HB ZM ZN Yj Yl YA YB Yi YD YE Yk hHeld ⊢
  refine pur (i:=0) (N:=some 28) (bn 12 1) ?_
  refine pur (i:=5) (N:=some 33) (bn 12 33) ?_
  refine tak (i:=1) (N:=some 29) (bn 12 35) ?_
  refine pur (i:=2) (N:=some 30) (bn 12 39) ?_
  refine tak (i:=3) (N:=some 31) (bn 12 47) ?_
  refine tak (i:=6) (N:=some 34) (bn 12 111) ?_
  refine pur (i:=7) (N:=some 35) (bn 12 239) ?_
  refine tak (i:=8) (N:=some 36) (bn 12 495) ?_
  refine one_ (i:=4) (N:=some 32) (bn 12 511) rfl rfl (one_of HT_.out (by kernel_rfl)) (by decide) (fun K hK=>?_)
  refine goes1 Try.func47 #[.agg #[.int .i64 ((rd_T29 l0_2 0).f0),.int .i64 ((rd_T29 l0_2 0).f1),.slice A322_2 ((rd_T29 l0_2 0).f2).length c322_2]] ?_
  with_reducible refine (ih k (by omega) ((rd_T29 l0_2 0).f0) ((rd_T29 l0_2 0).f1) (fun k_=>((P0_2_ k_ ∨ w.heap.size ≤ k_)∧k_ ≠ Zb)) _ _ ((rd_T29 l0_2 0).f2) t323 _ ?ZO A11.out).mono ?_
  (case ZO=>exact ZM.out)
  rintro e w18 ⟨v324,rfl,ho0,hb⟩
  have HS3_:=(hb.cell (World.block_lt_of_cell? _ _ (hHeld.2.2.2.1))).trans (hHeld.2.2.2.1)
  have HS4_:=(hb.cell (World.block_lt_of_cell? _ _ (hHeld.2.2.2.2.1))).trans (hHeld.2.2.2.2.1)
  have HS5_:=(hb.cell (World.block_lt_of_cell? _ _ (hHeld.2.2.2.2.2.1))).trans (hHeld.2.2.2.2.2.1)
  have HS6_:=(hb.cell (World.block_lt_of_cell? _ _ (hHeld.2.2.2.2.2.2.1))).trans (hHeld.2.2.2.2.2.2.1)
  have HS7_:=(hb.cell (World.block_lt_of_cell? _ _ (hHeld.2.2.2.2.2.2.2.1))).trans (hHeld.2.2.2.2.2.2.2.1)
  have HS8_:=(hb.cell (World.block_lt_of_cell? _ _ (hHeld.2.2.2.2.2.2.2.2))).trans (hHeld.2.2.2.2.2.2.2.2)
  refine ⟨_,rfl,?_⟩
  replace Zl:=aQ (Kd.V_elder' (nV Zl.out) (Kd.N_base ho0) hb)
  replace ZM:=aQ (Kd.V_elder' (nV ZM.out) (Kd.N_base ho0) hb)
  replace ZN:=aQ (Kd.V_elder' (nV ZN.out) (Kd.N_base ho0) hb)
  have YG:=aQ (Kd.N_lower (Kd.N_mono (ok':=fun k_=>(P0_2_ k_ ∨ w.heap.size ≤ k_)∧k_ ≠ Zb) ho0 (fun k_ hk_=>⟨Or.elim hk_ (fun hs_=>hs_.1) (fun hn_=>(.inr (Nat.le_trans (below_size bB) hn_))),Or.elim hk_ (fun hs_=>hs_.2) (fun hn_=>(Kd.freshB (nB Za.out) k_ hn_))⟩)) (below_size bB))
  replace Za:=aQ (blk_below (nB Za.out) hb)
  replace Yj:=aQ (Kd.C_below (nC Yj.out) hb)
  replace Yl:=aQ (Kd.C_below (nC Yl.out) hb)
  replace HB:=aQ (below_step bB hb)
  (try clear hb)
  (try clear ho0)
  refine hK.out _ _ ⟨(blk_cell Za.out 0).trans rfl,(blk_cell Za.out 1).trans rfl,(blk_cell Za.out 2).trans rfl,HS3_,HS4_,HS5_,HS6_,HS7_,HS8_⟩ (fun hHeld=>?_)
  clear hK K
  refine nrm (N:=some 32) ?_
  refine one_ (i:=9) (N:=some 37) (bn 12 1023) rfl rfl (one_of HT_.out (by kernel_rfl)) (by decide) (fun K hK=>?_)
  refine goes1 Try.func47 #[.agg #[.int .i64 ((rd_T29 l0_2 1).f0),.int .i64 ((rd_T29 l0_2 1).f1),.slice A326_2 ((rd_T29 l0_2 1).f2).length c326_2]] ?_
  with_reducible refine (ih k (by omega) ((rd_T29 l0_2 1).f0) ((rd_T29 l0_2 1).f1) (fun k_=>(((P0_2_ k_ ∨ w.heap.size ≤ k_)∧k_ ≠ Zb)∧some k_ ≠ (v324:Value).ownBlock)) _ _ ((rd_T29 l0_2 1).f2) t327 _ ?ZO A13.out).mono ?_
  (case ZO=>exact ZN.out)
  rintro e w19 ⟨v328,rfl,ho0,hb⟩
  have HS3_:=(hb.cell (World.block_lt_of_cell? _ _ (hHeld.2.2.2.1))).trans (hHeld.2.2.2.1)
  have HS4_:=(hb.cell (World.block_lt_of_cell? _ _ (hHeld.2.2.2.2.1))).trans (hHeld.2.2.2.2.1)
  have HS5_:=(hb.cell (World.block_lt_of_cell? _ _ (hHeld.2.2.2.2.2.1))).trans (hHeld.2.2.2.2.2.1)
  have HS6_:=(hb.cell (World.block_lt_of_cell? _ _ (hHeld.2.2.2.2.2.2.1))).trans (hHeld.2.2.2.2.2.2.1)
  have HS7_:=(hb.cell (World.block_lt_of_cell? _ _ (hHeld.2.2.2.2.2.2.2.1))).trans (hHeld.2.2.2.2.2.2.2.1)
  have HS8_:=(hb.cell (World.block_lt_of_cell? _ _ (hHeld.2.2.2.2.2.2.2.2))).trans (hHeld.2.2.2.2.2.2.2.2)
  refine ⟨_,rfl,?_⟩
  replace Zl:=aQ (Kd.V_elder' (nV Zl.out) (Kd.N_base ho0) hb)
  replace ZM:=aQ (Kd.V_elder' (nV ZM.out) (Kd.N_base ho0) hb)
  replace ZN:=aQ (Kd.V_elder' (nV ZN.out) (Kd.N_base ho0) hb)
  have YY:=aQ (Kd.N_lower (Kd.N_mono (ok':=fun k_=>(P0_2_ k_ ∨ w.heap.size ≤ k_)∧some k_ ≠ (v324:Value).ownBlock∧k_ ≠ Zb) ho0 (fun k_ hk_=>⟨Or.elim hk_ (fun hs_=>hs_.1.1) (fun hn_=>(.inr (Nat.le_trans (below_size bB) hn_))),Or.elim hk_ (fun hs_=>hs_.2) (fun hn_=>(Kd.fresh' (Kd.N_lt (nN YG.out)) k_ hn_)),Or.elim hk_ (fun hs_=>hs_.1.2) (fun hn_=>(Kd.freshB (nB Za.out) k_ hn_))⟩)) (below_size bB))
  replace YG:=aQ (Kd.N_elder' (nN YG.out) (Kd.N_base ho0) hb)
  replace Za:=aQ (blk_below (nB Za.out) hb)
  replace Yj:=aQ (Kd.C_below (nC Yj.out) hb)
  replace Yl:=aQ (Kd.C_below (nC Yl.out) hb)
  replace HB:=aQ (below_step bB hb)
  (try clear hb)
  (try clear ho0)
  obtain ⟨WC,WD,Vh⟩:=Kd.N_slice YY.out
  (first | subst Vh | (injection Vh with f1_ f2_ f3_;have f4_:=f1_.symm;have f5_:=f3_.symm;clear f1_ f2_ f3_;subst f4_;subst f5_))
  refine hK.out _ _ ⟨(blk_cell Za.out 0).trans rfl,(blk_cell Za.out 1).trans rfl,(blk_cell Za.out 2).trans rfl,HS3_,HS4_,HS5_,HS6_,HS7_,HS8_⟩ (fun hHeld=>?_)
  clear hK K
  refine nrm (N:=some 37) ?_
  refine last_ (i:=10) (N:=some 38) (bn 12 2047) rfl rfl (one_of HT_.out (by kernel_rfl)) (by decide) (fun K hK=>?_)
  refine Kd.N_append_rows_step k44 (w0:=w) w.heap.size (by rfl) (.tmp 32) (.tmp 37) 35 44 (.agg #[(.int .i64 0),(.int .i64 0),(.int .i64 0),(.slice none 0 0)]) 48 rfl Try.underlying35 info44 rfl (by decide) (by omega) v324 t323 t327 _ _ _ (fun k_=>(P0_2_ k_ ∨ w.heap.size ≤ k_)∧k_ ≠ Zb) (fun k_=>((fun k_=>(P0_2_ k_ ∨ w.heap.size ≤ k_)∧k_ ≠ Zb)) k_∧some k_ ≠ (v324:Value).ownBlock) rfl rfl ?aO ?aR (fun _ hk=>hk) ?aF ?aB ?aS ?aL ?_
  (case aR=>exact (by skip;exact Kd.N_F (Kd.N_mono (ok':=(fun k_=>((fun k_=>(P0_2_ k_ ∨ w.heap.size ≤ k_)∧k_ ≠ Zb)) k_∧some k_ ≠ (v324:Value).ownBlock)) (YY.out) (fun k_ hk=>⟨⟨hk.1,hk.2.2⟩,hk.2.1⟩))))
  (case aB=>exact bB)
  (case aF=>exact (fun k_ hk=>⟨(.inr (Nat.le_trans (below_size bB) hk)),Kd.freshB (nB Za.out) k_ hk⟩))
  (case aO=>exact (nN (Kd.N_mono YG.out (fun _ hk=>⟨hk.1.1,hk.1.2⟩))))
  (case aS=>exact (below_size bB))
  (case aL=>have:=LMc14.out;omega)
  intro v331 w20 ho hb hg hat
  rw [← Vz.out] at ho
  have n0_:=aQ (Kd.V_afterv (ok:=(fun k_=>(P0_2_ k_ ∨ w.heap.size ≤ k_)∧some k_ ≠ (.slice WC t327.length WD:Value).ownBlock∧k_ ≠ Zb)) (nV (Kd.V_mono Zl.out (fun _ hk=>⟨⟨hk.1.1.1,⟨hk.2,hk.1.1.2⟩⟩,hk.1.2⟩))) hg hat)
  have n1_:=aQ (blk_grown (nB Za.out) hg (Kd.N_ne YG.out Za.out (by decide)))
  have n2_:=aQ (Kd.V_afterv (ok:=(fun k_=>(P0_2_ k_ ∨ w.heap.size ≤ k_)∧some k_ ≠ (.slice WC t327.length WD:Value).ownBlock∧k_ ≠ Zb)) (nV (Kd.V_mono ZM.out (fun _ hk=>⟨⟨hk.1.1.1,⟨hk.2,hk.1.1.2⟩⟩,hk.1.2⟩))) hg hat)
  have n3_:=aQ (Kd.V_afterv (ok:=(fun k_=>(P0_2_ k_ ∨ w.heap.size ≤ k_)∧some k_ ≠ (.slice WC t327.length WD:Value).ownBlock∧k_ ≠ Zb)) (nV (Kd.V_mono ZN.out (fun _ hk=>⟨⟨hk.1.1.1,⟨hk.2,hk.1.1.2⟩⟩,hk.1.2⟩))) hg hat)
  have n4_:=aQ (Kd.N_afterv (ok:=(fun k_=>(P0_2_ k_ ∨ w.heap.size ≤ k_)∧k_ ≠ Zb)) (nN (Kd.N_mono YY.out (fun _ hk=>⟨⟨hk.1,hk.2.2⟩,hk.2.1⟩))) hg hat)
  have n5_:=aQ (hb)
  have n6_:=aQ (ho)
  clear Zl Za ZM ZN YY HB YG
  have Zl:=n0_
  have Za:=n1_
  have ZM:=n2_
  have ZN:=n3_
  have YY:=n4_
  have HB:=n5_
  have VB:=n6_
  clear n0_ n1_ n2_ n3_ n4_ n5_ n6_
  clear ho hb hg hat
  refine hK.out _ _ ?_
  clear hK K
  refine nrm (N:=some 38) ?_
  refine pur (i:=11) (N:=some 2) (bn 12 4095) ?_
  refine done_ (done_of HT_.out (by kernel_rfl)) ?_
  try go_wp2
  go_ret
  exact ⟨_,rfl,by (with_reducible repeat (first | apply Kd.N_alloc | apply Kd.N_drewN | apply Kd.N_drew));exact Kd.N_mono VB.out (fun _ hk=>hk.1),bB⟩
 rw [if_neg c9] at H
 have c9b0:(a0_0 == 3) = false:=beq_eq_false_iff_ne.mpr c9
 have c9b1:(a0_0 != 3) = true:=bne_iff_ne.mpr c9
 by_cases c22:a0_0 = 4;rotate_left
 ·rw [if_neg c22] at H
  have c22b0:(a0_0 == 4) = false:=beq_eq_false_iff_ne.mpr c22
  have c22b1:(a0_0 != 4) = true:=bne_iff_ne.mpr c22
  obtain rfl:=Option.some.inj H
  go_enter Try.func47,Try.ntmps47
  go_wp2_with (first | ((with_reducible refine gate_dst (N:=1) rfl ?_);refine box1 (N:=1) (cs:=#[.int .i64 a0_0,.int .i64 a0_1,.slice A0_2 l0_2.length c0_2]) (t:=29) ?_;intro Zb hg w100 hbox hb;replace Zl:=aQ (Kd.V_below (Kd.V_elderB (nV Zl.out) Zb (Nat.le_of_eq hg.symm)) hb);have Za:=aQ (hbox);have Yt:=aQ (gB:w.heap.size ≤ Zb);have Wk:=Yt;replace HB:=aQ (below_step bB hb);clear hb hbox hg;obtain ⟨VP,VQ,VR,VS,VT,VU⟩:=cz3 Za.out))
  go_ret
  exact ⟨_,rfl,by first | exact Kd.R_nil _ _ _ _ _ | exact Kd.N_nil _ _ _ _ _ | exact Kd.V_nil _ _ _ _ _ | exact Kd.Q_nil _ _ _ _ _ | exact Kd.S_nil _ _ _ _ _,bB⟩
 rw [if_pos c22] at H
 have c22b0:(a0_0 == 4) = true:=beq_iff_eq.mpr c22
 have c22b1:(a0_0 != 4) = false:=bne_eq_false_iff_eq.mpr c22
 clear c22
 by_cases c23:0 < (l0_2.length:Int);rotate_left
 ·rw [if_neg c23] at H
  exact absurd H (by simp)
 rw [if_pos c23] at H
 have c23b0:decide (0 < (l0_2.length:Int)) = true:=decide_eq_true c23
 have c23b1:decide (0 < l0_2.length) = true:=decide_eq_true (by omega)
 clear c23
 obtain ⟨t334,A24,H⟩:=bQ H
 (try dsimp only at H)
 by_cases c25:1 < (l0_2.length:Int);rotate_left
 ·rw [if_neg c25] at H
  exact absurd H (by simp)
 rw [if_pos c25] at H
 have c25b0:decide (1 < (l0_2.length:Int)) = true:=decide_eq_true c25
 have c25b1:decide (1 < l0_2.length) = true:=decide_eq_true (by omega)
 clear c25
 obtain ⟨t338,A26,H⟩:=bQ H
 (try dsimp only at H)
 obtain ⟨y341,Wm⟩:∃ y_:List (S44),y_ = (([]:List (S44))):=⟨_,rfl⟩
 replace H:(impl_ticksOf.l0 k t334 t338 y341 t334 (t334.length:Int) 0 a0_0 a0_1 l0_2) = some r:=by rw [Wm];exact H
 have WF:=aQ Wm
 clear Wm
 have H':=aQ H
 clear H
 go_enter Try.func47,Try.ntmps47
 try go_wp2_with (first | ((with_reducible refine gate_dst (N:=1) rfl ?_);refine box1 (N:=1) (cs:=#[.int .i64 a0_0,.int .i64 a0_1,.slice A0_2 l0_2.length c0_2]) (t:=29) ?_;intro Zb hg w27 hbox hb;replace Zl:=aQ (Kd.V_below (Kd.V_elderB (nV Zl.out) Zb (Nat.le_of_eq hg.symm)) hb);have Za:=aQ (hbox);have Yt:=aQ (gB:w.heap.size ≤ Zb);have Wk:=Yt;replace HB:=aQ (below_step bB hb);clear hb hbox hg;obtain ⟨WI,WJ,WK,WL,WM,WN⟩:=cz3 Za.out))
 replace Zl:=aQ (Kd.V_drew Zl.out)
 replace Za:=aQ (blk_drew Za.out)
 replace HB:=aQ (below_drew1 HB.out)
 have p333:0 ≤ (0:Int):=(by omega)
 have q333:0 < (l0_2.length:Int):=of_decide_eq_true (by first | (with_reducible assumption) | assumption)
 obtain ⟨Zo,A333_2,c333_2,e333,Ym,Yn,Yd,XL,XM⟩:=at_T29 (Kd.V_reads' Zl.out).2.2 0 p333 q333
 cases e333
 obtain ⟨Sr,Vi,Vj,Wt⟩:=Kd.V_get Zl.out z29 0 p333 (by first | exact q333 | exact of_decide_eq_true (by first | (with_reducible assumption) | assumption) | (have e_:=(Kd.V_reads' Zl.out).1;omega))
 obtain ⟨Un,Uo,rfl,Xi,Xj⟩:=k29_openF Vj
 have YH:=Wt 2 _ rfl
 rw [add_field _ _ 2 (by omega)] at YH
 replace YH:=Option.some.inj (YH.symm.trans Yd)
 injection YH with hva_ hvn_ hvc_
 rw [hva_] at Xj
 rw [hvc_] at Xi
 have ZQ:=aQ (show Kd.V k29 29 _ w.heap.size _ _ ((rd_T29 l0_2 0).f2) from Kd.V_mk Xi Xj)
 clear hva_ hvn_ hvc_ Xj Xi
 clear Wt Vi
 have qi333:(0 < l0_2.length) = True:=eq_true (by omega)
 (try rw [show ((0:Int)).toNat = 0 from rfl,show 0 * 3 = 0 from rfl] at Ym Yn Yd)
 (try rw [Addr.add_zero'] at Ym)
 (try rw [Addr.add_zero'] at Yn)
 (try rw [Addr.add_zero'] at Yd)
 have ZU:=aQ XM
 have Up:=aQ XL
 clear XM XL
 replace p333:=eq_true p333
 replace q333:=eq_true q333
 have p337:0 ≤ (1:Int):=(by omega)
 have q337:1 < (l0_2.length:Int):=of_decide_eq_true (by first | (with_reducible assumption) | assumption)
 obtain ⟨VC,A337_2,c337_2,e337,Yo,Yp,Ye,XN,XO⟩:=at_T29 (Kd.V_reads' Zl.out).2.2 1 p337 q337
 obtain rfl:Zo = VC:=(by injection e337)
 obtain ⟨Ss,Vk,Vl,Wu⟩:=Kd.V_get Zl.out z29 1 p337 (by first | exact q337 | exact of_decide_eq_true (by first | (with_reducible assumption) | assumption) | (have e_:=(Kd.V_reads' Zl.out).1;omega))
 obtain ⟨Uq,Ur,rfl,Xk,Xl⟩:=k29_openF Vl
 have YI:=Wu 2 _ rfl
 rw [add_field _ _ 2 (by omega)] at YI
 replace YI:=Option.some.inj (YI.symm.trans Ye)
 injection YI with hva_ hvn_ hvc_
 rw [hva_] at Xl
 rw [hvc_] at Xk
 have ZR:=aQ (show Kd.V k29 29 _ w.heap.size _ _ ((rd_T29 l0_2 1).f2) from Kd.V_mk Xk Xl)
 clear hva_ hvn_ hvc_ Xl Xk
 clear Wu Vk
 (try simp only [show (1:Int).toNat = 1 from rfl,Nat.reduceMul,Nat.reduceEqDiff,Go.Addr.add,↓reduceIte] at Yo)
 (try simp only [show (1:Int).toNat = 1 from rfl,Nat.reduceMul,Nat.reduceEqDiff,Go.Addr.add,↓reduceIte] at Yp)
 (try simp only [show (1:Int).toNat = 1 from rfl,Nat.reduceMul,Nat.reduceEqDiff,Go.Addr.add,↓reduceIte] at Ye)
 have qi337:(1 < l0_2.length) = True:=eq_true (by omega)
 (try rw [show ((1:Int)).toNat = 1 from rfl,show 1 * 3 = 3 from rfl] at Yo Yp Ye)
 have ZV:=aQ XO
 have Us:=aQ XN
 clear XO XN
 replace p337:=eq_true p337
 replace q337:=eq_true q337
 refine start_ (n:=12) (S:=fun w'=>w'.cell? ⟨Zb,0,none⟩ = some (.int .i64 a0_0)∧w'.cell? ⟨Zb,1,none⟩ = some (.int .i64 a0_1)∧w'.cell? ⟨Zb,2,none⟩ = some (.slice (some Zo) l0_2.length c0_2)∧w'.cell? Zo = some (.int .i64 ((rd_T29 l0_2 0).f0))∧w'.cell? ⟨Zo.block,Zo.off + 1,none⟩ = some (.int .i64 ((rd_T29 l0_2 0).f1))∧w'.cell? ⟨Zo.block,Zo.off + 2,none⟩ = some (.slice A333_2 ((rd_T29 l0_2 0).f2).length c333_2)∧w'.cell? ⟨Zo.block,Zo.off + 3,none⟩ = some (.int .i64 ((rd_T29 l0_2 1).f0))∧w'.cell? ⟨Zo.block,Zo.off + 3 + 1,none⟩ = some (.int .i64 ((rd_T29 l0_2 1).f1))∧w'.cell? ⟨Zo.block,Zo.off + 3 + 2,none⟩ = some (.slice A337_2 ((rd_T29 l0_2 1).f2).length c337_2)) (ds:=[]) (bn 12 0) (by kernel_rfl) rfl rfl ⟨(blk_cell Za.out 0).trans rfl,(blk_cell Za.out 1).trans rfl,(blk_cell Za.out 2).trans rfl,Ym,Yn,Yd,Yo,Yp,Ye⟩ (fun hHeld=>?_);refine with_tabW impl_ticksOf.tab7 impl_ticksOf.bits7 (fun HT_ HW_=>?_)
 generalize w27.drew = w29 at Zl Za HB ZQ ZR ZU ZV Ym Yn Yd Yo Yp Ye hHeld ⊢
 refine pur (i:=0) (N:=some 41) (bn 12 1) ?_
 refine pur (i:=5) (N:=some 46) (bn 12 33) ?_
 refine tak (i:=1) (N:=some 42) (bn 12 35) ?_
 refine pur (i:=2) (N:=some 43) (bn 12 39) ?_
 refine tak (i:=3) (N:=some 44) (bn 12 47) ?_
 refine tak (i:=6) (N:=some 47) (bn 12 111) ?_
 refine pur (i:=7) (N:=some 48) (bn 12 239) ?_
 refine tak (i:=8) (N:=some 49) (bn 12 495) ?_
 refine one_ (i:=4) (N:=some 45) (bn 12 511) rfl rfl (one_of HT_.out (by kernel_rfl)) (by decide) (fun K hK=>?_)
 refine goes1 Try.func47 #[.agg #[.int .i64 ((rd_T29 l0_2 0).f0),.int .i64 ((rd_T29 l0_2 0).f1),.slice A333_2 ((rd_T29 l0_2 0).f2).length c333_2]] ?_
 with_reducible refine (ih k (by omega) ((rd_T29 l0_2 0).f0) ((rd_T29 l0_2 0).f1) (fun k_=>((P0_2_ k_ ∨ w.heap.size ≤ k_)∧k_ ≠ Zb)) _ _ ((rd_T29 l0_2 0).f2) t334 _ ?ZO A24.out).mono ?_
 (case ZO=>exact ZQ.out)
 rintro e w30 ⟨v335,rfl,ho0,hb⟩
 have HS3_:=(hb.cell (World.block_lt_of_cell? _ _ (hHeld.2.2.2.1))).trans (hHeld.2.2.2.1)
 have HS4_:=(hb.cell (World.block_lt_of_cell? _ _ (hHeld.2.2.2.2.1))).trans (hHeld.2.2.2.2.1)
 have HS5_:=(hb.cell (World.block_lt_of_cell? _ _ (hHeld.2.2.2.2.2.1))).trans (hHeld.2.2.2.2.2.1)
 have HS6_:=(hb.cell (World.block_lt_of_cell? _ _ (hHeld.2.2.2.2.2.2.1))).trans (hHeld.2.2.2.2.2.2.1)
 have HS7_:=(hb.cell (World.block_lt_of_cell? _ _ (hHeld.2.2.2.2.2.2.2.1))).trans (hHeld.2.2.2.2.2.2.2.1)
 have HS8_:=(hb.cell (World.block_lt_of_cell? _ _ (hHeld.2.2.2.2.2.2.2.2))).trans (hHeld.2.2.2.2.2.2.2.2)
 refine ⟨_,rfl,?_⟩
 replace Zl:=aQ (Kd.V_elder' (nV Zl.out) (Kd.N_base ho0) hb)
 replace ZQ:=aQ (Kd.V_elder' (nV ZQ.out) (Kd.N_base ho0) hb)
 replace ZR:=aQ (Kd.V_elder' (nV ZR.out) (Kd.N_base ho0) hb)
 have Yc:=aQ (Kd.N_lower (Kd.N_mono (ok':=fun k_=>(P0_2_ k_ ∨ w.heap.size ≤ k_)∧k_ ≠ Zb) ho0 (fun k_ hk_=>⟨Or.elim hk_ (fun hs_=>hs_.1) (fun hn_=>(.inr (Nat.le_trans (below_size bB) hn_))),Or.elim hk_ (fun hs_=>hs_.2) (fun hn_=>(Kd.freshB (nB Za.out) k_ hn_))⟩)) (below_size bB))
 replace Za:=aQ (blk_below (nB Za.out) hb)
 replace ZU:=aQ (Kd.C_below (nC ZU.out) hb)
 replace ZV:=aQ (Kd.C_below (nC ZV.out) hb)
 replace HB:=aQ (below_step bB hb)
 (try clear hb)
 (try clear ho0)
 refine hK.out _ _ ⟨(blk_cell Za.out 0).trans rfl,(blk_cell Za.out 1).trans rfl,(blk_cell Za.out 2).trans rfl,HS3_,HS4_,HS5_,HS6_,HS7_,HS8_⟩ (fun hHeld=>?_)
 clear hK K
 refine nrm (N:=some 45) ?_
 refine one_ (i:=9) (N:=some 50) (bn 12 1023) rfl rfl (one_of HT_.out (by kernel_rfl)) (by decide) (fun K hK=>?_)
 refine goes1 Try.func47 #[.agg #[.int .i64 ((rd_T29 l0_2 1).f0),.int .i64 ((rd_T29 l0_2 1).f1),.slice A337_2 ((rd_T29 l0_2 1).f2).length c337_2]] ?_
 with_reducible refine (ih k (by omega) ((rd_T29 l0_2 1).f0) ((rd_T29 l0_2 1).f1) (fun k_=>(((P0_2_ k_ ∨ w.heap.size ≤ k_)∧k_ ≠ Zb)∧some k_ ≠ (v335:Value).ownBlock)) _ _ ((rd_T29 l0_2 1).f2) t338 _ ?ZO A26.out).mono ?_
 (case ZO=>exact ZR.out)
 rintro e w31 ⟨v339,rfl,ho0,hb⟩
 have HS3_:=(hb.cell (World.block_lt_of_cell? _ _ (hHeld.2.2.2.1))).trans (hHeld.2.2.2.1)
 have HS4_:=(hb.cell (World.block_lt_of_cell? _ _ (hHeld.2.2.2.2.1))).trans (hHeld.2.2.2.2.1)
 have HS5_:=(hb.cell (World.block_lt_of_cell? _ _ (hHeld.2.2.2.2.2.1))).trans (hHeld.2.2.2.2.2.1)
 have HS6_:=(hb.cell (World.block_lt_of_cell? _ _ (hHeld.2.2.2.2.2.2.1))).trans (hHeld.2.2.2.2.2.2.1)
 have HS7_:=(hb.cell (World.block_lt_of_cell? _ _ (hHeld.2.2.2.2.2.2.2.1))).trans (hHeld.2.2.2.2.2.2.2.1)
 have HS8_:=(hb.cell (World.block_lt_of_cell? _ _ (hHeld.2.2.2.2.2.2.2.2))).trans (hHeld.2.2.2.2.2.2.2.2)
 refine ⟨_,rfl,?_⟩
 replace Zl:=aQ (Kd.V_elder' (nV Zl.out) (Kd.N_base ho0) hb)
 replace ZQ:=aQ (Kd.V_elder' (nV ZQ.out) (Kd.N_base ho0) hb)
 replace ZR:=aQ (Kd.V_elder' (nV ZR.out) (Kd.N_base ho0) hb)
 have XB:=aQ (Kd.N_lower (Kd.N_mono (ok':=fun k_=>(P0_2_ k_ ∨ w.heap.size ≤ k_)∧some k_ ≠ (v335:Value).ownBlock∧k_ ≠ Zb) ho0 (fun k_ hk_=>⟨Or.elim hk_ (fun hs_=>hs_.1.1) (fun hn_=>(.inr (Nat.le_trans (below_size bB) hn_))),Or.elim hk_ (fun hs_=>hs_.2) (fun hn_=>(Kd.fresh' (Kd.N_lt (nN Yc.out)) k_ hn_)),Or.elim hk_ (fun hs_=>hs_.1.2) (fun hn_=>(Kd.freshB (nB Za.out) k_ hn_))⟩)) (below_size bB))
 replace Yc:=aQ (Kd.N_elder' (nN Yc.out) (Kd.N_base ho0) hb)
 replace Za:=aQ (blk_below (nB Za.out) hb)
 replace ZU:=aQ (Kd.C_below (nC ZU.out) hb)
 replace ZV:=aQ (Kd.C_below (nC ZV.out) hb)
 replace HB:=aQ (below_step bB hb)
 (try clear hb)
 (try clear ho0)
 refine hK.out _ _ ⟨(blk_cell Za.out 0).trans rfl,(blk_cell Za.out 1).trans rfl,(blk_cell Za.out 2).trans rfl,HS3_,HS4_,HS5_,HS6_,HS7_,HS8_⟩ (fun hHeld=>?_)
 clear hK K
 refine nrm (N:=some 50) ?_
 refine pur (i:=10) (N:=some 3) (bn 12 2047) ?_
 refine pur (i:=11) (N:=some 4) (bn 12 4095) ?_
 refine done_ (done_of HT_.out (by kernel_rfl)) ?_
 try go_wp2_with (first | ((with_reducible refine gate_dst (N:=51) rfl ?_);refine Kd.N_lit k44 _ 44 ?hg (N':=51) ?hd (xs:=([]:List (S44))) (inner:=[]) (ok:=(fun k_=>(P0_2_ k_ ∨ w.heap.size ≤ k_)∧some k_ ≠ (v335:Value).ownBlock∧some k_ ≠ (v339:Value).ownBlock∧k_ ≠ Zb)) (okp:=(fun k_=>(P0_2_ k_ ∨ w.heap.size ≤ k_)∧some k_ ≠ (v335:Value).ownBlock∧some k_ ≠ (v339:Value).ownBlock∧k_ ≠ Zb)) ?hr ?hp (fun _ hk=>hk) ((show ∀ k_,w31.heap.size ≤ k_ → (fun k_=>(P0_2_ k_ ∨ w.heap.size ≤ k_)∧some k_ ≠ (v335:Value).ownBlock∧some k_ ≠ (v339:Value).ownBlock∧k_ ≠ Zb) k_ from fun k_ hk=>⟨(.inr (Nat.le_trans (below_size bB) hk)),Kd.fresh' (Kd.N_lt (nN Yc.out)) k_ hk,Kd.fresh' (Kd.N_lt (nN XB.out)) k_ hk,Kd.freshB (nB Za.out) k_ hk⟩) _ (Nat.le_refl _)) (Below.refl _ _) (Nat.le_refl _) (by simp) ?_;(case hd=>rfl);(case hg=>rfl);(case hr=>first | (go_simp;done) | (go_simp;rfl));(case hp=>exact (Reps.none _ _));intro v342 w32 ho33 hb hg_ hnew_;clear hg_ hnew_;(first | rw [← WF.out] at ho33 | (simp only [Int.reduceToNat] at ho33;rw [← WF.out] at ho33));replace Zl:=aQ (Kd.V_elder' (nV Zl.out) (Kd.N_base ho33) hb);replace ZQ:=aQ (Kd.V_elder' (nV ZQ.out) (Kd.N_base ho33) hb);replace ZR:=aQ (Kd.V_elder' (nV ZR.out) (Kd.N_base ho33) hb);replace Yc:=aQ (Kd.N_elder' (nN Yc.out) (Kd.N_base ho33) hb);replace XB:=aQ (Kd.N_elder' (nN XB.out) (Kd.N_base ho33) hb);have VD:=aQ (Kd.N_lower ho33 (below_size bB));replace Za:=aQ (blk_below (nB Za.out) hb);replace ZU:=aQ (Kd.C_below (nC ZU.out) hb);replace ZV:=aQ (Kd.C_below (nC ZV.out) hb);replace HB:=aQ (below_step bB hb);clear hb ho33;obtain ⟨Zy,Zh,VV⟩:=Kd.N_slice Yc.out;subst VV))
 go_loopg [5,54] k (fun kq v5 v54 w'=>∃ (x5_1:List (S44)) (x54_1:Int),v54 = .int .i64 x54_1∧Aside0 (impl_ticksOf.l0 kq t334 t338 x5_1 t334 (t334.length:Int) x54_1 a0_0 a0_1 l0_2 = some r)∧Aside0 (kq ≤ k)∧Aside0 (Kd.N k44 44 w' w.heap.size (fun k_=>(P0_2_ k_ ∨ w.heap.size ≤ k_)∧some k_ ≠ (v339:Value).ownBlock∧some k_ ≠ (v5:Value).ownBlock∧k_ ≠ Zb) (.slice Zy t334.length Zh) t334)∧Aside0 (Kd.N k44 44 w' w.heap.size (fun k_=>(P0_2_ k_ ∨ w.heap.size ≤ k_)∧some k_ ≠ ((.slice Zy t334.length Zh):Value).ownBlock∧some k_ ≠ (v5:Value).ownBlock∧some k_ ≠ ((.slice Zy t334.length Zh):Value).ownBlock∧k_ ≠ Zb) v339 t338)∧Aside0 (Kd.N k44 44 w' w.heap.size (fun k_=>(P0_2_ k_ ∨ w.heap.size ≤ k_)∧some k_ ≠ ((.slice Zy t334.length Zh):Value).ownBlock∧k_ ≠ Zb) v5 x5_1)∧Aside0 (Kd.N k44 44 w' w.heap.size (fun k_=>(P0_2_ k_ ∨ w.heap.size ≤ k_)∧some k_ ≠ (v339:Value).ownBlock∧some k_ ≠ (v5:Value).ownBlock∧k_ ≠ Zb) (.slice Zy t334.length Zh) t334)∧Aside0 (Kd.V k29 29 w' w.heap.size (fun k_=>(P0_2_ k_ ∨ w.heap.size ≤ k_)∧some k_ ≠ ((.slice Zy t334.length Zh):Value).ownBlock∧some k_ ≠ (v339:Value).ownBlock∧some k_ ≠ (v5:Value).ownBlock∧some k_ ≠ ((.slice Zy t334.length Zh):Value).ownBlock∧k_ ≠ Zb) (.slice (some Zo) l0_2.length c0_2) l0_2)∧Aside0 (w'.heap[Zb]? = some (.cells #[.int .i64 a0_0,.int .i64 a0_1,(.slice (some Zo) l0_2.length c0_2)] 29 (0,0)))∧Aside0 (Below w.heap.size w w'))
 case atStart=>exact ⟨(y341),(0),rfl,H',⟨Nat.le_refl _⟩,⟨nN (Kd.N_mono Yc.out (fun _ hk=>⟨hk.1.1.1,⟨hk.1.2,⟨hk.2,hk.1.1.2⟩⟩⟩))⟩,⟨nN (Kd.N_mono XB.out (fun _ hk=>⟨hk.1.1,⟨hk.1.2.1,⟨hk.2,⟨hk.1.2.1,hk.1.2.2⟩⟩⟩⟩))⟩,⟨nN (Kd.N_mono VD.out (fun _ hk=>⟨hk.1,⟨hk.2.1,hk.2.2.2⟩⟩))⟩,⟨nN (Kd.N_mono Yc.out (fun _ hk=>⟨hk.1.1.1,⟨hk.1.2,⟨hk.2,hk.1.1.2⟩⟩⟩))⟩,⟨nV (Kd.V_mono Zl.out (fun _ hk=>⟨hk.1.1.1.1,⟨hk.1.1.2,⟨hk.1.2,⟨hk.2,⟨hk.1.1.2,hk.1.1.1.2⟩⟩⟩⟩⟩))⟩,⟨nB Za.out⟩,⟨bB⟩⟩
 case round =>
  clear H'
  try clear c2
  try clear c9
  try clear c9b0
  try clear c9b1
  try clear c22b0
  try clear c22b1
  try clear c23b0
  try clear c23b1
  try clear c25b0
  try clear c25b1
  try clear WI
  try clear WJ
  try clear WK
  try clear WL
  try clear WM
  try clear WN
  try clear Ym
  try clear Yn
  try clear Yd
  try clear Yo
  try clear Yp
  try clear Ye
  try clear p333
  try clear p337
  try clear q333
  try clear q337
  repeat (first | clear Zu | clear Zk | clear Zj | clear Zz | clear Zc | clear Za | clear HB)
  obtain ⟨x5_1,x54_1,rfl,HA,HK1,Zu,Zk,Zj,Zz,Zc,Za,HB⟩:=hrel
  cases gk with
  | zero=>exact absurd HA.out (by simp [impl_ticksOf.l0])
  | succ k1 =>
   have H:=HA.out
   clear HA
   simp only [impl_ticksOf.l0] at H
   by_cases c35:x54_1 < (t334.length:Int)
   ·rw [if_pos c35] at H
    have c35b0:decide (x54_1 < (t334.length:Int)) = true:=decide_eq_true c35
    clear c35
    by_cases c36:0 ≤ x54_1;rotate_left
    ·rw [if_neg c36] at H
     exact absurd H (by simp)
    rw [if_pos c36] at H
    have c36b0:decide (0 ≤ x54_1) = true:=decide_eq_true c36
    clear c36
    by_cases c37:x54_1 < (t334.length:Int);rotate_left
    ·rw [if_neg c37] at H
     exact absurd H (by simp)
    rw [if_pos c37] at H
    have c37b0:decide (x54_1 < (t334.length:Int)) = true:=decide_eq_true c37
    clear c37
    by_cases c38:1 < (l0_2.length:Int);rotate_left
    ·rw [if_neg c38] at H
     exact absurd H (by simp)
    rw [if_pos c38] at H
    have c38b0:decide (1 < (l0_2.length:Int)) = true:=decide_eq_true c38
    have c38b1:decide (1 < l0_2.length) = true:=decide_eq_true (by omega)
    clear c38
    obtain ⟨⟨t347,t348,t349⟩,A39,H⟩:=bQ H
    dsimp only at H
    by_cases c40:x5_1.length < 2932031007402;rotate_left
    ·rw [if_neg c40] at H
     exact absurd H (by simp)
    rw [if_pos c40] at H
    have LMc40:=aQ c40
    clear c40
    obtain ⟨y352,Wn⟩:∃ y_:List (S44),y_ = (x5_1 ++ [(⟨(rd_T44 t334 x54_1).f0,(⟨t347,t348,t349⟩:S29)⟩:S44)]):=⟨_,rfl⟩
    replace H:(impl_ticksOf.l0 k1 t334 t338 y352 t334 (t334.length:Int) (wrap64 (x54_1 + 1)) a0_0 a0_1 l0_2) = some r:=by rw [Wn];exact H
    have VE:=aQ Wn
    clear Wn
    have H':=aQ H
    clear H
    have p344:0 ≤ (x54_1:Int):=of_decide_eq_true (by first | (with_reducible assumption) | assumption)
    have q344:x54_1 < (t334.length:Int):=of_decide_eq_true (by first | (with_reducible assumption) | assumption)
    obtain ⟨Zw,A344_3,c344_3,e344,Ut,Uu,Uv,WO,XP,XQ⟩:=at_T44 (Kd.N_reads' Zz.out).2.2 x54_1 p344 q344
    cases e344
    obtain ⟨St,Vm,Vn,Wv⟩:=Kd.N_get Zz.out z44 x54_1 p344 (by first | exact q344 | exact of_decide_eq_true (by first | (with_reducible assumption) | assumption) | (have e_:=(Kd.N_reads' Zz.out).1;omega))
    obtain ⟨Uw,Ux,rfl,Xm,Xn⟩:=k44_openF Vn
    have YJ:=Wv 3 _ rfl
    rw [add_field _ _ 3 (by omega)] at YJ
    replace YJ:=Option.some.inj (YJ.symm.trans WO)
    injection YJ with hva_ hvn_ hvc_
    rw [hva_] at Xn
    rw [hvc_] at Xm
    have ZA:=aQ (show Kd.V k29 29 _ w.heap.size _ _ ((rd_T44 t334 x54_1).f1.f2) from Kd.V_mk Xm Xn)
    clear hva_ hvn_ hvc_ Xn Xm
    clear Wv Vm
    have XR:=aQ XQ
    have Uy:=aQ XP
    clear XQ XP
    replace p344:=eq_true p344
    replace q344:=eq_true q344
    try go_wp2_with (first | ((with_reducible refine gate_dst (N:=7) rfl ?_);refine box1 (N:=7) (cs:=#[.int .i64 0,.int .i64 0,.int .i64 0,.slice none 0 0]) (t:=44) ?_;intro Ze hg w41 hbox hb;replace Zu:=aQ (Kd.N_below (Kd.N_elderB (nN Zu.out) Ze (Nat.le_of_eq hg.symm)) hb);replace Zk:=aQ (Kd.N_below (Kd.N_elderB (nN Zk.out) Ze (Nat.le_of_eq hg.symm)) hb);replace Zj:=aQ (Kd.N_below (Kd.N_elderB (nN Zj.out) Ze (Nat.le_of_eq hg.symm)) hb);replace Zz:=aQ (Kd.N_below (Kd.N_elderB (nN Zz.out) Ze (Nat.le_of_eq hg.symm)) hb);replace Zc:=aQ (Kd.V_below (Kd.V_elderB (nV Zc.out) Ze (Nat.le_of_eq hg.symm)) hb);replace ZA:=aQ (Kd.V_below (Kd.V_elderB (nV ZA.out) Ze (Nat.le_of_eq hg.symm)) hb);replace XR:=aQ (Kd.C_below (nC XR.out) hb);have Zs:=aQ (hbox);have VF:=aQ (gB:w.heap.size ≤ Ze);have Su:=VF;replace HB:=aQ (below_step bB hb);have Xz:=aQ ((by rw [hg];exact Nat.ne_of_lt (blk_lt (nB Za.out)):Zb ≠ Ze));have Ww:=aQ Xz.out.symm;replace Za:=aQ (blk_below (nB Za.out) hb);clear hb hbox hg;have Sv:=Ww.out;have Sw:=Xz.out;have Uz:w41.cell? ⟨Ze,0,none⟩ = some (.int .i64 0):=(blk_cell Zs.out 0).trans rfl;have UA:w41.cell? ⟨Ze,1,none⟩ = some (.int .i64 0):=(blk_cell Zs.out 1).trans rfl;have UB:w41.cell? ⟨Ze,2,none⟩ = some (.int .i64 0):=(blk_cell Zs.out 2).trans rfl;have UC:w41.cell? ⟨Ze,3,none⟩ = some (.slice none 0 0):=(blk_cell Zs.out 3).trans rfl;have UD:=blk_frozen Zs.out 0;have UE:=blk_frozen Zs.out 1;have UF:=blk_frozen Zs.out 2;have UG:=blk_frozen Zs.out 3))
    have n0_:Aside0 (Kd.N k44 44 ((((w41.setCell ⟨Ze,0,none⟩ (.int .i64 ((rd_T44 t334 x54_1).f0))).setCell ⟨Ze,1,none⟩ (.int .i64 ((rd_T44 t334 x54_1).f1.f0))).setCell ⟨Ze,2,none⟩ (.int .i64 ((rd_T44 t334 x54_1).f1.f1))).setCell ⟨Ze,3,none⟩ (.slice A344_3 ((rd_T44 t334 x54_1).f1.f2).length c344_3)) w.heap.size (fun k_=>(P0_2_ k_ ∨ w.heap.size ≤ k_)∧some k_ ≠ (v339:Value).ownBlock∧some k_ ≠ (u5:Value).ownBlock∧k_ ≠ Zb∧k_ ≠ Ze) (.slice (some Zw) t334.length Zh) t334):=⟨Kd.N_mono (nFN (g:=Ze) Zu.out (fun k_ hk=>hk.2)) (fun _ hk=>⟨hk.1.1,⟨hk.1.2.1,⟨hk.1.2.2.1,⟨hk.1.2.2.2,hk.2⟩⟩⟩⟩)⟩
    have n1_:Aside0 (Kd.N k44 44 ((((w41.setCell ⟨Ze,0,none⟩ (.int .i64 ((rd_T44 t334 x54_1).f0))).setCell ⟨Ze,1,none⟩ (.int .i64 ((rd_T44 t334 x54_1).f1.f0))).setCell ⟨Ze,2,none⟩ (.int .i64 ((rd_T44 t334 x54_1).f1.f1))).setCell ⟨Ze,3,none⟩ (.slice A344_3 ((rd_T44 t334 x54_1).f1.f2).length c344_3)) w.heap.size (fun k_=>(P0_2_ k_ ∨ w.heap.size ≤ k_)∧some k_ ≠ (.slice (some Zw) t334.length Zh:Value).ownBlock∧some k_ ≠ (u5:Value).ownBlock∧some k_ ≠ (.slice (some Zw) t334.length Zh:Value).ownBlock∧k_ ≠ Zb∧k_ ≠ Ze) v339 t338):=⟨Kd.N_mono (nFN (g:=Ze) Zk.out (fun k_ hk=>hk.2)) (fun _ hk=>⟨hk.1.1,⟨hk.1.2.1,⟨hk.1.2.2.1,⟨hk.1.2.2.2.1,⟨hk.1.2.2.2.2,hk.2⟩⟩⟩⟩⟩)⟩
    have n2_:Aside0 (Kd.N k44 44 ((((w41.setCell ⟨Ze,0,none⟩ (.int .i64 ((rd_T44 t334 x54_1).f0))).setCell ⟨Ze,1,none⟩ (.int .i64 ((rd_T44 t334 x54_1).f1.f0))).setCell ⟨Ze,2,none⟩ (.int .i64 ((rd_T44 t334 x54_1).f1.f1))).setCell ⟨Ze,3,none⟩ (.slice A344_3 ((rd_T44 t334 x54_1).f1.f2).length c344_3)) w.heap.size (fun k_=>(P0_2_ k_ ∨ w.heap.size ≤ k_)∧some k_ ≠ (.slice (some Zw) t334.length Zh:Value).ownBlock∧k_ ≠ Zb∧k_ ≠ Ze) u5 x5_1):=⟨Kd.N_mono (nFN (g:=Ze) Zj.out (fun k_ hk=>hk.2)) (fun _ hk=>⟨hk.1.1,⟨hk.1.2.1,⟨hk.1.2.2,hk.2⟩⟩⟩)⟩
    have n3_:Aside0 (Kd.N k44 44 ((((w41.setCell ⟨Ze,0,none⟩ (.int .i64 ((rd_T44 t334 x54_1).f0))).setCell ⟨Ze,1,none⟩ (.int .i64 ((rd_T44 t334 x54_1).f1.f0))).setCell ⟨Ze,2,none⟩ (.int .i64 ((rd_T44 t334 x54_1).f1.f1))).setCell ⟨Ze,3,none⟩ (.slice A344_3 ((rd_T44 t334 x54_1).f1.f2).length c344_3)) w.heap.size (fun k_=>(P0_2_ k_ ∨ w.heap.size ≤ k_)∧some k_ ≠ (v339:Value).ownBlock∧some k_ ≠ (u5:Value).ownBlock∧k_ ≠ Zb∧k_ ≠ Ze) (.slice (some Zw) t334.length Zh) t334):=⟨Kd.N_mono (nFN (g:=Ze) Zz.out (fun k_ hk=>hk.2)) (fun _ hk=>⟨hk.1.1,⟨hk.1.2.1,⟨hk.1.2.2.1,⟨hk.1.2.2.2,hk.2⟩⟩⟩⟩)⟩
    have n4_:Aside0 (Kd.V k29 29 ((((w41.setCell ⟨Ze,0,none⟩ (.int .i64 ((rd_T44 t334 x54_1).f0))).setCell ⟨Ze,1,none⟩ (.int .i64 ((rd_T44 t334 x54_1).f1.f0))).setCell ⟨Ze,2,none⟩ (.int .i64 ((rd_T44 t334 x54_1).f1.f1))).setCell ⟨Ze,3,none⟩ (.slice A344_3 ((rd_T44 t334 x54_1).f1.f2).length c344_3)) w.heap.size (fun k_=>(P0_2_ k_ ∨ w.heap.size ≤ k_)∧some k_ ≠ (.slice (some Zw) t334.length Zh:Value).ownBlock∧some k_ ≠ (v339:Value).ownBlock∧some k_ ≠ (u5:Value).ownBlock∧some k_ ≠ (.slice (some Zw) t334.length Zh:Value).ownBlock∧k_ ≠ Zb∧k_ ≠ Ze) (.slice (some Zo) l0_2.length c0_2) l0_2):=⟨Kd.V_mono (nFV (g:=Ze) Zc.out (fun k_ hk=>hk.2)) (fun _ hk=>⟨hk.1.1,⟨hk.1.2.1,⟨hk.1.2.2.1,⟨hk.1.2.2.2.1,⟨hk.1.2.2.2.2.1,⟨hk.1.2.2.2.2.2,hk.2⟩⟩⟩⟩⟩⟩)⟩
    have n5_:Aside0 (Kd.V k29 29 ((((w41.setCell ⟨Ze,0,none⟩ (.int .i64 ((rd_T44 t334 x54_1).f0))).setCell ⟨Ze,1,none⟩ (.int .i64 ((rd_T44 t334 x54_1).f1.f0))).setCell ⟨Ze,2,none⟩ (.int .i64 ((rd_T44 t334 x54_1).f1.f1))).setCell ⟨Ze,3,none⟩ (.slice A344_3 ((rd_T44 t334 x54_1).f1.f2).length c344_3)) w.heap.size (fun k_=>(P0_2_ k_ ∨ w.heap.size ≤ k_)∧some k_ ≠ (v339:Value).ownBlock∧some k_ ≠ (u5:Value).ownBlock∧some k_ ≠ (.slice (some Zw) t334.length Zh:Value).ownBlock∧k_ ≠ Zb∧k_ ≠ Ze) (.slice A344_3 ((rd_T44 t334 x54_1).f1.f2).length c344_3) ((rd_T44 t334 x54_1).f1.f2)):=⟨Kd.V_mono (nFV (g:=Ze) ZA.out (fun k_ hk=>hk.2)) (fun _ hk=>⟨hk.1.1.1,⟨hk.1.1.2.1,⟨hk.1.1.2.2.1,⟨hk.1.2,⟨hk.1.1.2.2.2,hk.2⟩⟩⟩⟩⟩)⟩
    have n6_:Aside0 (((((w41.setCell ⟨Ze,0,none⟩ (.int .i64 ((rd_T44 t334 x54_1).f0))).setCell ⟨Ze,1,none⟩ (.int .i64 ((rd_T44 t334 x54_1).f1.f0))).setCell ⟨Ze,2,none⟩ (.int .i64 ((rd_T44 t334 x54_1).f1.f1))).setCell ⟨Ze,3,none⟩ (.slice A344_3 ((rd_T44 t334 x54_1).f1.f2).length c344_3)).heap[Zb]? = some (.cells #[.int .i64 a0_0,.int .i64 a0_1,.slice (some Zo) l0_2.length c0_2] 29 (0,0))):=⟨bF⟩
    have n7_:Aside0 (((((w41.setCell ⟨Ze,0,none⟩ (.int .i64 ((rd_T44 t334 x54_1).f0))).setCell ⟨Ze,1,none⟩ (.int .i64 ((rd_T44 t334 x54_1).f1.f0))).setCell ⟨Ze,2,none⟩ (.int .i64 ((rd_T44 t334 x54_1).f1.f1))).setCell ⟨Ze,3,none⟩ (.slice A344_3 ((rd_T44 t334 x54_1).f1.f2).length c344_3)).heap[Ze]? = some (.cells #[.int .i64 ((rd_T44 t334 x54_1).f0),.int .i64 ((rd_T44 t334 x54_1).f1.f0),.int .i64 ((rd_T44 t334 x54_1).f1.f1),.slice A344_3 ((rd_T44 t334 x54_1).f1.f2).length c344_3] 44 (0,0))):=⟨bP⟩
    have n8_:Aside0 (Below w.heap.size w ((((w41.setCell ⟨Ze,0,none⟩ (.int .i64 ((rd_T44 t334 x54_1).f0))).setCell ⟨Ze,1,none⟩ (.int .i64 ((rd_T44 t334 x54_1).f1.f0))).setCell ⟨Ze,2,none⟩ (.int .i64 ((rd_T44 t334 x54_1).f1.f1))).setCell ⟨Ze,3,none⟩ (.slice A344_3 ((rd_T44 t334 x54_1).f1.f2).length c344_3))):=⟨bB⟩
    (try clear Zu)
    (try clear Zk)
    (try clear Zj)
    (try clear Zz)
    (try clear Zc)
    (try clear ZA)
    (try clear Za)
    (try clear Zs)
    (try clear HB)
    generalize ((((w41.setCell ⟨Ze,0,none⟩ (.int .i64 ((rd_T44 t334 x54_1).f0))).setCell ⟨Ze,1,none⟩ (.int .i64 ((rd_T44 t334 x54_1).f1.f0))).setCell ⟨Ze,2,none⟩ (.int .i64 ((rd_T44 t334 x54_1).f1.f1))).setCell ⟨Ze,3,none⟩ (.slice A344_3 ((rd_T44 t334 x54_1).f1.f2).length c344_3)) = w44 at n0_ n1_ n2_ n3_ n4_ n5_ n6_ n7_ n8_ ⊢
    have Zu:=n0_
    have Zk:=n1_
    have Zj:=n2_
    have Zz:=n3_
    have Zc:=n4_
    have ZA:=n5_
    have Za:=n6_
    have Zs:=n7_
    have HB:=n8_
    clear n0_ n1_ n2_ n3_ n4_ n5_ n6_ n7_ n8_
    replace Zu:=aQ (Kd.N_drew Zu.out)
    replace Zk:=aQ (Kd.N_drew Zk.out)
    replace Zj:=aQ (Kd.N_drew Zj.out)
    replace Zz:=aQ (Kd.N_drew Zz.out)
    replace Zc:=aQ (Kd.V_drew Zc.out)
    replace ZA:=aQ (Kd.V_drew ZA.out)
    replace Za:=aQ (blk_drew Za.out)
    replace Zs:=aQ (blk_drew Zs.out)
    replace HB:=aQ (below_drew1 HB.out)
    have p346:0 ≤ (1:Int):=(by omega)
    have q346:1 < (l0_2.length:Int):=of_decide_eq_true (by first | (with_reducible assumption) | assumption)
    obtain ⟨VG,A346_2,c346_2,e346,YK,YL,Yq,XS,XT⟩:=at_T29 (Kd.V_reads' Zc.out).2.2 1 p346 q346
    obtain rfl:Zo = VG:=(by injection e346)
    obtain ⟨Sx,Vo,Vp,Wx⟩:=Kd.V_get Zc.out z29 1 p346 (by first | exact q346 | exact of_decide_eq_true (by first | (with_reducible assumption) | assumption) | (have e_:=(Kd.V_reads' Zc.out).1;omega))
    obtain ⟨UH,UI,rfl,Xo,Xp⟩:=k29_openF Vp
    have YM:=Wx 2 _ rfl
    rw [add_field _ _ 2 (by omega)] at YM
    replace YM:=Option.some.inj (YM.symm.trans Yq)
    injection YM with hva_ hvn_ hvc_
    rw [hva_] at Xp
    rw [hvc_] at Xo
    have ZW:=aQ (show Kd.V k29 29 _ w.heap.size _ _ ((rd_T29 l0_2 1).f2) from Kd.V_mk Xo Xp)
    clear hva_ hvn_ hvc_ Xp Xo
    clear Wx Vo
    (try simp only [show (1:Int).toNat = 1 from rfl,Nat.reduceMul,Nat.reduceEqDiff,Go.Addr.add,↓reduceIte] at YK)
    (try simp only [show (1:Int).toNat = 1 from rfl,Nat.reduceMul,Nat.reduceEqDiff,Go.Addr.add,↓reduceIte] at YL)
    (try simp only [show (1:Int).toNat = 1 from rfl,Nat.reduceMul,Nat.reduceEqDiff,Go.Addr.add,↓reduceIte] at Yq)
    have qi346:(1 < l0_2.length) = True:=eq_true (by omega)
    (try rw [show ((1:Int)).toNat = 1 from rfl,show 1 * 3 = 3 from rfl] at YK YL Yq)
    have Xq:=aQ XT
    have UJ:=aQ XS
    clear XT XS
    replace p346:=eq_true p346
    replace q346:=eq_true q346
    refine start_ (n:=14) (S:=fun w'=>w'.cell? ⟨Ze,0,none⟩ = some (.int .i64 ((rd_T44 t334 x54_1).f0))∧w'.cell? ⟨Ze,1,none⟩ = some (.int .i64 ((rd_T44 t334 x54_1).f1.f0))∧w'.cell? ⟨Ze,2,none⟩ = some (.int .i64 ((rd_T44 t334 x54_1).f1.f1))∧w'.cell? ⟨Ze,3,none⟩ = some (.slice A344_3 ((rd_T44 t334 x54_1).f1.f2).length c344_3)∧w'.cell? ⟨Zb,0,none⟩ = some (.int .i64 a0_0)∧w'.cell? ⟨Zb,1,none⟩ = some (.int .i64 a0_1)∧w'.cell? ⟨Zb,2,none⟩ = some (.slice (some Zo) l0_2.length c0_2)∧w'.cell? ⟨Zo.block,Zo.off + 3,none⟩ = some (.int .i64 ((rd_T29 l0_2 1).f0))∧w'.cell? ⟨Zo.block,Zo.off + 3 + 1,none⟩ = some (.int .i64 ((rd_T29 l0_2 1).f1))∧w'.cell? ⟨Zo.block,Zo.off + 3 + 2,none⟩ = some (.slice A346_2 ((rd_T29 l0_2 1).f2).length c346_2)) (ds:=[11,12]) (bn 14 0) (by kernel_rfl) rfl rfl ⟨(blk_cell Zs.out 0).trans rfl,(blk_cell Zs.out 1).trans rfl,(blk_cell Zs.out 2).trans rfl,(blk_cell Zs.out 3).trans rfl,(blk_cell Za.out 0).trans rfl,(blk_cell Za.out 1).trans rfl,(blk_cell Za.out 2).trans rfl,YK,YL,Yq⟩ (fun hHeld=>?_);refine with_tabW impl_ticksOf.tab12 impl_ticksOf.bits12 (fun HT_ HW_=>?_)
    generalize w44.drew = w45 at Zu Zk Zj Zz Zc ZA Za Zs HB ZW Xq YK YL Yq hHeld ⊢
    refine pur (i:=0) (N:=some 58) (bn 14 1) ?_
    refine pur (i:=1) (N:=some 59) (bn 14 3) ?_
    refine pur (i:=3) (N:=some 61) (bn 14 11) ?_
    refine pur (i:=5) (N:=some 63) (bn 14 43) ?_
    refine tak (i:=2) (N:=some 60) (bn 14 47) ?_
    refine tak (i:=4) (N:=some 62) (bn 14 63) ?_
    refine tak (i:=6) (N:=some 64) (bn 14 127) ?_
    refine pur (i:=7) (N:=some 65) (bn 14 255) ?_
    refine tak (i:=8) (N:=some 66) (bn 14 511) ?_
    refine one_ (i:=9) (N:=some 67) (bn 14 1023) rfl rfl (one_of HT_.out (by kernel_rfl)) (by decide) (fun K hK=>?_)
    refine goes1 Try.func62 #[.agg #[.int .i64 ((rd_T44 t334 x54_1).f1.f0),.int .i64 ((rd_T44 t334 x54_1).f1.f1),.slice A344_3 ((rd_T44 t334 x54_1).f1.f2).length c344_3],.agg #[.int .i64 ((rd_T29 l0_2 1).f0),.int .i64 ((rd_T29 l0_2 1).f1),.slice A346_2 ((rd_T29 l0_2 1).f2).length c346_2]] ?_
    with_reducible refine (impl_beside.calls ((rd_T44 t334 x54_1).f1.f0) ((rd_T44 t334 x54_1).f1.f1) (fun k_=>((P0_2_ k_ ∨ w.heap.size ≤ k_)∧(some k_ ≠ (v339:Value).ownBlock∧(some k_ ≠ (u5:Value).ownBlock∧(some k_ ≠ (.slice (some Zw) t334.length Zh:Value).ownBlock∧(k_ ≠ Zb∧k_ ≠ Ze)))))) _ _ ((rd_T44 t334 x54_1).f1.f2) ((rd_T29 l0_2 1).f0) ((rd_T29 l0_2 1).f1) (fun k_=>((P0_2_ k_ ∨ w.heap.size ≤ k_)∧(some k_ ≠ (.slice (some Zw) t334.length Zh:Value).ownBlock∧(some k_ ≠ (v339:Value).ownBlock∧(some k_ ≠ (u5:Value).ownBlock∧(some k_ ≠ (.slice (some Zw) t334.length Zh:Value).ownBlock∧(k_ ≠ Zb∧k_ ≠ Ze))))))) _ _ ((rd_T29 l0_2 1).f2) t347 t348 t349 _ ?ZO ?YZ A39.out).mono ?_
    (case ZO=>exact ZA.out)
    (case YZ=>exact ZW.out)
    rintro e w46 ⟨v350,rfl,ho0,hb⟩
    have HS7_:=(hb.cell (World.block_lt_of_cell? _ _ (hHeld.2.2.2.2.2.2.2.1))).trans (hHeld.2.2.2.2.2.2.2.1)
    have HS8_:=(hb.cell (World.block_lt_of_cell? _ _ (hHeld.2.2.2.2.2.2.2.2.1))).trans (hHeld.2.2.2.2.2.2.2.2.1)
    have HS9_:=(hb.cell (World.block_lt_of_cell? _ _ (hHeld.2.2.2.2.2.2.2.2.2))).trans (hHeld.2.2.2.2.2.2.2.2.2)
    refine ⟨_,rfl,?_⟩
    replace Zu:=aQ (Kd.N_elder' (nN Zu.out) (Kd.N_base ho0) hb)
    replace Zc:=aQ (Kd.V_elder' (nV Zc.out) (Kd.N_base ho0) hb)
    replace ZA:=aQ (Kd.V_elder' (nV ZA.out) (Kd.N_base ho0) hb)
    replace ZW:=aQ (Kd.V_elder' (nV ZW.out) (Kd.N_base ho0) hb)
    have XC:=aQ (Kd.N_lower (Kd.N_mono (ok':=fun k_=>(P0_2_ k_ ∨ w.heap.size ≤ k_)∧some k_ ≠ (v339:Value).ownBlock∧some k_ ≠ (u5:Value).ownBlock∧some k_ ≠ (.slice (some Zw) t334.length Zh:Value).ownBlock∧k_ ≠ Zb∧k_ ≠ Ze) ho0 (fun k_ hk_=>⟨Or.elim hk_ (fun hs_=>Or.elim hs_ (fun hs_=>hs_.1) (fun hs_=>hs_.1)) (fun hn_=>(.inr (Nat.le_trans (below_size bB) hn_))),Or.elim hk_ (fun hs_=>Or.elim hs_ (fun hs_=>hs_.2.1) (fun hs_=>hs_.2.2.1)) (fun hn_=>(Kd.fresh' (Kd.N_lt (nN Zk.out)) k_ hn_)),Or.elim hk_ (fun hs_=>Or.elim hs_ (fun hs_=>hs_.2.2.1) (fun hs_=>hs_.2.2.2.1)) (fun hn_=>(Kd.fresh' (Kd.N_lt (nN Zj.out)) k_ hn_)),Or.elim hk_ (fun hs_=>Or.elim hs_ (fun hs_=>hs_.2.2.2.1) (fun hs_=>hs_.2.2.2.2.1)) (fun hn_=>(Kd.fresh' (Kd.N_lt (nN Zz.out)) k_ hn_)),Or.elim hk_ (fun hs_=>Or.elim hs_ (fun hs_=>hs_.2.2.2.2.1) (fun hs_=>hs_.2.2.2.2.2.1)) (fun hn_=>(Kd.freshB (nB Za.out) k_ hn_)),Or.elim hk_ (fun hs_=>Or.elim hs_ (fun hs_=>hs_.2.2.2.2.2) (fun hs_=>hs_.2.2.2.2.2.2)) (fun hn_=>(Kd.freshB (nB Zs.out) k_ hn_))⟩)) (below_size bB))
    replace Zk:=aQ (Kd.N_elder' (nN Zk.out) (Kd.N_base ho0) hb)
    replace Zj:=aQ (Kd.N_elder' (nN Zj.out) (Kd.N_base ho0) hb)
    replace Zz:=aQ (Kd.N_elder' (nN Zz.out) (Kd.N_base ho0) hb)
    replace Za:=aQ (blk_below (nB Za.out) hb)
    replace Zs:=aQ (blk_below (nB Zs.out) hb)
    replace Xq:=aQ (Kd.C_below (nC Xq.out) hb)
    replace HB:=aQ (below_step bB hb)
    (try clear hb)
    (try clear ho0)
    obtain ⟨YS,YT,Vq⟩:=Kd.N_slice XC.out
    (first | subst Vq | (injection Vq with f1_ f2_ f3_;have f4_:=f1_.symm;have f5_:=f3_.symm;clear f1_ f2_ f3_;subst f4_;subst f5_))
    refine hK.out _ _ ⟨(blk_cell Zs.out 0).trans rfl,(blk_cell Zs.out 1).trans rfl,(blk_cell Zs.out 2).trans rfl,(blk_cell Zs.out 3).trans rfl,(blk_cell Za.out 0).trans rfl,(blk_cell Za.out 1).trans rfl,(blk_cell Za.out 2).trans rfl,HS7_,HS8_,HS9_⟩ (fun hHeld=>?_)
    clear hK K
    refine nrm (N:=some 67) ?_
    refine pur (i:=10) (N:=some 68) (bn 14 2047) ?_
    refine last_ (i:=11) (N:=some 69) (bn 14 4095) rfl rfl (one_of HT_.out (by kernel_rfl)) (by decide) (fun K hK=>?_)
    refine value_ (w1:=?_) (v:=?_) (by rfl) rfl ?_ ?_
    rotate_left 2
    ·go_simp
     constructor
     ·rfl
     ·rfl
    refine hK.out _ _ ?_
    clear hK K
    refine nrm (N:=some 69) ?_
    refine last_ (i:=12) (N:=some 70) (bn 14 8191) rfl rfl (one_of HT_.out (by kernel_rfl)) (by decide) (fun K hK=>?_)
    refine Kd.N_append_step k44 (w0:=w) w.heap.size (by rfl) (.tmp 58) (.tmp 69) 35 44 (.agg #[(.int .i64 0),(.int .i64 0),(.int .i64 0),(.slice none 0 0)]) 48 rfl Try.underlying35 info44 rfl (by decide) (by omega) u5 x5_1 (⟨(rd_T44 t334 x54_1).f0,(⟨t347,t348,t349⟩:S29)⟩:S44) [.int .i64 ((rd_T44 t334 x54_1).f0),.int .i64 t347,.int .i64 t348,.slice YS t349.length YT] (fun k_=>(P0_2_ k_ ∨ w.heap.size ≤ k_)∧some k_ ≠ (.slice (some Zw) t334.length Zh:Value).ownBlock∧k_ ≠ Zb∧k_ ≠ Ze) (fun k_=>((fun k_=>(P0_2_ k_ ∨ w.heap.size ≤ k_)∧some k_ ≠ (.slice (some Zw) t334.length Zh:Value).ownBlock∧k_ ≠ Zb∧k_ ≠ Ze)) k_∧some k_ ≠ (u5:Value).ownBlock) rfl rfl ?aP (fun _ hk=>hk) ?aF ?aO ?aB ?aS ?aL ?_
    (case aP=>exact (k44_mkF _ _ (⟨(rd_T44 t334 x54_1).f0,(⟨t347,t348,t349⟩:S29)⟩:S44) (Kd.N_reads' (Kd.N_mono (ok':=(fun k_=>((fun k_=>(P0_2_ k_ ∨ w.heap.size ≤ k_)∧some k_ ≠ (.slice (some Zw) t334.length Zh:Value).ownBlock∧k_ ≠ Zb∧k_ ≠ Ze)) k_∧some k_ ≠ (u5:Value).ownBlock)) (XC.out) (fun k_ hk=>⟨⟨hk.1,⟨hk.2.2.2.1,⟨hk.2.2.2.2.1,hk.2.2.2.2.2⟩⟩⟩,hk.2.2.1⟩))).2.1 (Kd.N_F (Kd.N_mono (ok':=(fun k_=>((fun k_=>(P0_2_ k_ ∨ w.heap.size ≤ k_)∧some k_ ≠ (.slice (some Zw) t334.length Zh:Value).ownBlock∧k_ ≠ Zb∧k_ ≠ Ze)) k_∧some k_ ≠ (u5:Value).ownBlock)) (XC.out) (fun k_ hk=>⟨⟨hk.1,⟨hk.2.2.2.1,⟨hk.2.2.2.2.1,hk.2.2.2.2.2⟩⟩⟩,hk.2.2.1⟩)))))
    (case aB=>exact bB)
    (case aF=>exact (fun k_ hk=>⟨(.inr (Nat.le_trans (below_size bB) hk)),Kd.fresh' (Kd.N_lt (nN Zz.out)) k_ hk,Kd.freshB (nB Za.out) k_ hk,Kd.freshB (nB Zs.out) k_ hk⟩))
    (case aO=>exact (nN (Kd.N_mono Zj.out (fun _ hk=>⟨hk.1.1,⟨hk.1.2.1,⟨hk.1.2.2.1,hk.1.2.2.2⟩⟩⟩))))
    (case aS=>exact (below_size bB))
    (case aL=>have:=LMc40.out;omega)
    intro v353 w48 ho hb hg hat
    rw [← VE.out] at ho
    have n0_:=aQ (Kd.N_afterv (ok:=(fun k_=>(P0_2_ k_ ∨ w.heap.size ≤ k_)∧some k_ ≠ (v339:Value).ownBlock∧some k_ ≠ (.slice YS t349.length YT:Value).ownBlock∧k_ ≠ Zb∧k_ ≠ Ze)) (nN (Kd.N_mono Zu.out (fun _ hk=>⟨⟨hk.1.1,⟨hk.1.2.1,⟨hk.2,⟨hk.1.2.2.2.1,hk.1.2.2.2.2⟩⟩⟩⟩,hk.1.2.2.1⟩))) hg hat)
    have n1_:=aQ (Kd.N_afterv (ok:=(fun k_=>(P0_2_ k_ ∨ w.heap.size ≤ k_)∧some k_ ≠ (.slice (some Zw) t334.length Zh:Value).ownBlock∧some k_ ≠ (.slice (some Zw) t334.length Zh:Value).ownBlock∧some k_ ≠ (.slice YS t349.length YT:Value).ownBlock∧k_ ≠ Zb∧k_ ≠ Ze)) (nN (Kd.N_mono Zk.out (fun _ hk=>⟨⟨hk.1.1,⟨hk.1.2.1,⟨hk.1.2.2.2.1,⟨hk.2,⟨hk.1.2.2.2.2.1,hk.1.2.2.2.2.2⟩⟩⟩⟩⟩,hk.1.2.2.1⟩))) hg hat)
    have n2_:=aQ (Kd.N_afterv (ok:=(fun k_=>(P0_2_ k_ ∨ w.heap.size ≤ k_)∧some k_ ≠ (v339:Value).ownBlock∧some k_ ≠ (.slice YS t349.length YT:Value).ownBlock∧k_ ≠ Zb∧k_ ≠ Ze)) (nN (Kd.N_mono Zz.out (fun _ hk=>⟨⟨hk.1.1,⟨hk.1.2.1,⟨hk.2,⟨hk.1.2.2.2.1,hk.1.2.2.2.2⟩⟩⟩⟩,hk.1.2.2.1⟩))) hg hat)
    have n3_:=aQ (Kd.V_afterv (ok:=(fun k_=>(P0_2_ k_ ∨ w.heap.size ≤ k_)∧some k_ ≠ (.slice (some Zw) t334.length Zh:Value).ownBlock∧some k_ ≠ (v339:Value).ownBlock∧some k_ ≠ (.slice (some Zw) t334.length Zh:Value).ownBlock∧some k_ ≠ (.slice YS t349.length YT:Value).ownBlock∧k_ ≠ Zb∧k_ ≠ Ze)) (nV (Kd.V_mono Zc.out (fun _ hk=>⟨⟨hk.1.1,⟨hk.1.2.1,⟨hk.1.2.2.1,⟨hk.1.2.2.2.2.1,⟨hk.2,⟨hk.1.2.2.2.2.2.1,hk.1.2.2.2.2.2.2⟩⟩⟩⟩⟩⟩,hk.1.2.2.2.1⟩))) hg hat)
    have n4_:=aQ (blk_grown (nB Za.out) hg (Kd.N_ne Zj.out Za.out (by decide)))
    have n5_:=aQ (Kd.V_afterv (ok:=(fun k_=>(P0_2_ k_ ∨ w.heap.size ≤ k_)∧some k_ ≠ (v339:Value).ownBlock∧some k_ ≠ (.slice (some Zw) t334.length Zh:Value).ownBlock∧some k_ ≠ (.slice YS t349.length YT:Value).ownBlock∧k_ ≠ Zb∧k_ ≠ Ze)) (nV (Kd.V_mono ZA.out (fun _ hk=>⟨⟨hk.1.1,⟨hk.1.2.1,⟨hk.1.2.2.2.1,⟨hk.2,⟨hk.1.2.2.2.2.1,hk.1.2.2.2.2.2⟩⟩⟩⟩⟩,hk.1.2.2.1⟩))) hg hat)
    have n6_:=aQ (blk_grown (nB Zs.out) hg (Kd.N_away Zj.out (fun _ hk=>hk.1.2.2.2)))
    have n7_:=aQ (Kd.V_afterv (ok:=(fun k_=>(P0_2_ k_ ∨ w.heap.size ≤ k_)∧some k_ ≠ (.slice (some Zw) t334.length Zh:Value).ownBlock∧some k_ ≠ (v339:Value).ownBlock∧some k_ ≠ (.slice (some Zw) t334.length Zh:Value).ownBlock∧some k_ ≠ (.slice YS t349.length YT:Value).ownBlock∧k_ ≠ Zb∧k_ ≠ Ze)) (nV (Kd.V_mono ZW.out (fun _ hk=>⟨⟨hk.1.1,⟨hk.1.2.1,⟨hk.1.2.2.1,⟨hk.1.2.2.2.2.1,⟨hk.2,⟨hk.1.2.2.2.2.2.1,hk.1.2.2.2.2.2.2⟩⟩⟩⟩⟩⟩,hk.1.2.2.2.1⟩))) hg hat)
    have n8_:=aQ (hb)
    have n9_:=aQ (ho)
    clear Zu Zk Zz Zc Za ZA Zs ZW HB Zj XC
    have Zu:=n0_
    have Zk:=n1_
    have Zz:=n2_
    have Zc:=n3_
    have Za:=n4_
    have ZA:=n5_
    have Zs:=n6_
    have ZW:=n7_
    have HB:=n8_
    have VH:=n9_
    clear n0_ n1_ n2_ n3_ n4_ n5_ n6_ n7_ n8_ n9_
    clear ho hb hg hat
    refine hK.out _ _ ?_
    clear hK K
    refine nrm (N:=some 70) ?_
    refine pur (i:=13) (N:=some 5) (bn 14 16383) ?_
    refine done_ (done_of HT_.out (by kernel_rfl)) ?_
    try go_wp2
    go_roundg k1
    case measure=>have:=HK1.out;omega
    case rel=>exact ⟨(y352),(wrap64 (x54_1 + 1)),rfl,H',⟨by have:=HK1.out;omega⟩,⟨nN (Kd.N_mono Zu.out (fun _ hk=>⟨hk.1.1,⟨hk.1.2.1,⟨hk.2,hk.1.2.2.2.1⟩⟩⟩))⟩,⟨nN (Kd.N_mono Zk.out (fun _ hk=>⟨hk.1.1,⟨hk.1.2.1,⟨hk.2,⟨hk.1.2.2.1,hk.1.2.2.2.2.1⟩⟩⟩⟩))⟩,⟨nN (Kd.N_mono VH.out (fun _ hk=>⟨hk.1,⟨hk.2.1,hk.2.2.1⟩⟩))⟩,⟨nN (Kd.N_mono Zz.out (fun _ hk=>⟨hk.1.1,⟨hk.1.2.1,⟨hk.2,hk.1.2.2.2.1⟩⟩⟩))⟩,⟨nV (Kd.V_mono Zc.out (fun _ hk=>⟨hk.1.1,⟨hk.1.2.1,⟨hk.1.2.2.1,⟨hk.2,⟨hk.1.2.2.2.1,hk.1.2.2.2.2.2.1⟩⟩⟩⟩⟩))⟩,⟨nB Za.out⟩,⟨bB⟩⟩
   rw [if_neg c35] at H
   have c35b0:decide (x54_1 < (t334.length:Int)) = false:=decide_eq_false c35
   clear c35
   have H':=aQ H
   clear H
   obtain ⟨ZK,Zn,VW⟩:=Kd.N_slice Zk.out
   subst VW
   go_wp2
   go_loopg [5,74] k1 (fun kq v5 v74 w'=>∃ (x5_2:List (S44)) (x74_2:Int),v74 = .int .i64 x74_2∧Aside0 (impl_ticksOf.l1 kq t334 t338 x5_2 t338 (t338.length:Int) x74_2 a0_0 a0_1 l0_2 = some r)∧Aside0 (kq ≤ k1)∧Aside0 (Kd.N k44 44 w' w.heap.size (fun k_=>(P0_2_ k_ ∨ w.heap.size ≤ k_)∧some k_ ≠ ((.slice ZK t338.length Zn):Value).ownBlock∧some k_ ≠ (v5:Value).ownBlock∧some k_ ≠ ((.slice ZK t338.length Zn):Value).ownBlock∧k_ ≠ Zb) (.slice Zy t334.length Zh) t334)∧Aside0 (Kd.N k44 44 w' w.heap.size (fun k_=>(P0_2_ k_ ∨ w.heap.size ≤ k_)∧some k_ ≠ ((.slice Zy t334.length Zh):Value).ownBlock∧some k_ ≠ (v5:Value).ownBlock∧k_ ≠ Zb) (.slice ZK t338.length Zn) t338)∧Aside0 (Kd.N k44 44 w' w.heap.size (fun k_=>(P0_2_ k_ ∨ w.heap.size ≤ k_)∧k_ ≠ Zb) v5 x5_2)∧Aside0 (Kd.N k44 44 w' w.heap.size (fun k_=>(P0_2_ k_ ∨ w.heap.size ≤ k_)∧some k_ ≠ ((.slice Zy t334.length Zh):Value).ownBlock∧some k_ ≠ (v5:Value).ownBlock∧k_ ≠ Zb) (.slice ZK t338.length Zn) t338)∧Aside0 (Kd.V k29 29 w' w.heap.size (fun k_=>(P0_2_ k_ ∨ w.heap.size ≤ k_)∧some k_ ≠ ((.slice Zy t334.length Zh):Value).ownBlock∧some k_ ≠ ((.slice ZK t338.length Zn):Value).ownBlock∧some k_ ≠ (v5:Value).ownBlock∧some k_ ≠ ((.slice ZK t338.length Zn):Value).ownBlock∧k_ ≠ Zb) (.slice (some Zo) l0_2.length c0_2) l0_2)∧Aside0 (w'.heap[Zb]? = some (.cells #[.int .i64 a0_0,.int .i64 a0_1,(.slice (some Zo) l0_2.length c0_2)] 29 (0,0)))∧Aside0 (Below w.heap.size w w'))
   case atStart=>exact ⟨(x5_1),(0),rfl,H',⟨Nat.le_refl _⟩,⟨nN (Kd.N_mono Zu.out (fun _ hk=>⟨hk.1,⟨hk.2.1,⟨hk.2.2.1,⟨hk.2.1,hk.2.2.2⟩⟩⟩⟩))⟩,⟨nN (Kd.N_mono Zk.out (fun _ hk=>⟨hk.1,⟨hk.2.1,⟨hk.2.2.1,hk.2.2.2.2⟩⟩⟩))⟩,⟨nN (Kd.N_mono Zj.out (fun _ hk=>⟨hk.1,hk.2.2⟩))⟩,⟨nN (Kd.N_mono Zk.out (fun _ hk=>⟨hk.1,⟨hk.2.1,⟨hk.2.2.1,hk.2.2.2.2⟩⟩⟩))⟩,⟨nV (Kd.V_mono Zc.out (fun _ hk=>⟨hk.1,⟨hk.2.1,⟨hk.2.2.1,⟨hk.2.2.2.1,⟨hk.2.2.1,hk.2.2.2.2.2⟩⟩⟩⟩⟩))⟩,⟨nB Za.out⟩,⟨bB⟩⟩
   case round =>
    clear H'
    try clear c35b0
    repeat (first | clear Zu | clear Zk | clear Zj | clear ZD | clear Zc | clear Za | clear HB)
    obtain ⟨x5_2,x74_2,rfl,HA,HK2,Zu,Zk,Zj,ZD,Zc,Za,HB⟩:=hrel
    cases gk with
    | zero=>exact absurd HA.out (by simp [impl_ticksOf.l1])
    | succ k2 =>
     have H:=HA.out
     clear HA
     simp only [impl_ticksOf.l1] at H
     by_cases c50:x74_2 < (t338.length:Int)
     ·rw [if_pos c50] at H
      have c50b0:decide (x74_2 < (t338.length:Int)) = true:=decide_eq_true c50
      clear c50
      by_cases c51:0 ≤ x74_2;rotate_left
      ·rw [if_neg c51] at H
       exact absurd H (by simp)
      rw [if_pos c51] at H
      have c51b0:decide (0 ≤ x74_2) = true:=decide_eq_true c51
      clear c51
      by_cases c52:x74_2 < (t338.length:Int);rotate_left
      ·rw [if_neg c52] at H
       exact absurd H (by simp)
      rw [if_pos c52] at H
      have c52b0:decide (x74_2 < (t338.length:Int)) = true:=decide_eq_true c52
      clear c52
      by_cases c53:0 < (l0_2.length:Int);rotate_left
      ·rw [if_neg c53] at H
       exact absurd H (by simp)
      rw [if_pos c53] at H
      have c53b0:decide (0 < (l0_2.length:Int)) = true:=decide_eq_true c53
      have c53b1:decide (0 < l0_2.length) = true:=decide_eq_true (by omega)
      clear c53
      obtain ⟨⟨t358,t359,t360⟩,A54,H⟩:=bQ H
      dsimp only at H
      by_cases c55:x5_2.length < 2932031007402;rotate_left
      ·rw [if_neg c55] at H
       exact absurd H (by simp)
      rw [if_pos c55] at H
      have LMc55:=aQ c55
      clear c55
      obtain ⟨y363,Wo⟩:∃ y_:List (S44),y_ = (x5_2 ++ [(⟨(rd_T44 t338 x74_2).f0,(⟨t358,t359,t360⟩:S29)⟩:S44)]):=⟨_,rfl⟩
      replace H:(impl_ticksOf.l1 k2 t334 t338 y363 t338 (t338.length:Int) (wrap64 (x74_2 + 1)) a0_0 a0_1 l0_2) = some r:=by rw [Wo];exact H
      have VI:=aQ Wo
      clear Wo
      have H':=aQ H
      clear H
      have p355:0 ≤ (x74_2:Int):=of_decide_eq_true (by first | (with_reducible assumption) | assumption)
      have q355:x74_2 < (t338.length:Int):=of_decide_eq_true (by first | (with_reducible assumption) | assumption)
      obtain ⟨ZF,A355_3,c355_3,e355,UK,UL,UM,WP,XU,XV⟩:=at_T44 (Kd.N_reads' ZD.out).2.2 x74_2 p355 q355
      cases e355
      obtain ⟨Sy,Vr,Vs,Wy⟩:=Kd.N_get ZD.out z44 x74_2 p355 (by first | exact q355 | exact of_decide_eq_true (by first | (with_reducible assumption) | assumption) | (have e_:=(Kd.N_reads' ZD.out).1;omega))
      obtain ⟨UN,UO,rfl,Xr,Xs⟩:=k44_openF Vs
      have YN:=Wy 3 _ rfl
      rw [add_field _ _ 3 (by omega)] at YN
      replace YN:=Option.some.inj (YN.symm.trans WP)
      injection YN with hva_ hvn_ hvc_
      rw [hva_] at Xs
      rw [hvc_] at Xr
      have ZB:=aQ (show Kd.V k29 29 _ w.heap.size _ _ ((rd_T44 t338 x74_2).f1.f2) from Kd.V_mk Xr Xs)
      clear hva_ hvn_ hvc_ Xs Xr
      clear Wy Vr
      have XW:=aQ XV
      have UP:=aQ XU
      clear XV XU
      replace p355:=eq_true p355
      replace q355:=eq_true q355
      try go_wp2_with (first | ((with_reducible refine gate_dst (N:=9) rfl ?_);refine box1 (N:=9) (cs:=#[.int .i64 0,.int .i64 0,.int .i64 0,.slice none 0 0]) (t:=44) ?_;intro Zf hg w56 hbox hb;replace Zu:=aQ (Kd.N_below (Kd.N_elderB (nN Zu.out) Zf (Nat.le_of_eq hg.symm)) hb);replace Zk:=aQ (Kd.N_below (Kd.N_elderB (nN Zk.out) Zf (Nat.le_of_eq hg.symm)) hb);replace Zj:=aQ (Kd.N_below (Kd.N_elderB (nN Zj.out) Zf (Nat.le_of_eq hg.symm)) hb);replace ZD:=aQ (Kd.N_below (Kd.N_elderB (nN ZD.out) Zf (Nat.le_of_eq hg.symm)) hb);replace Zc:=aQ (Kd.V_below (Kd.V_elderB (nV Zc.out) Zf (Nat.le_of_eq hg.symm)) hb);replace ZB:=aQ (Kd.V_below (Kd.V_elderB (nV ZB.out) Zf (Nat.le_of_eq hg.symm)) hb);replace XW:=aQ (Kd.C_below (nC XW.out) hb);have Zt:=aQ (hbox);have VJ:=aQ (gB:w.heap.size ≤ Zf);have Sz:=VJ;replace HB:=aQ (below_step bB hb);have XA:=aQ ((by rw [hg];exact Nat.ne_of_lt (blk_lt (nB Za.out)):Zb ≠ Zf));have Wz:=aQ XA.out.symm;replace Za:=aQ (blk_below (nB Za.out) hb);clear hb hbox hg;have SA:=Wz.out;have SB:=XA.out;have UQ:w56.cell? ⟨Zf,0,none⟩ = some (.int .i64 0):=(blk_cell Zt.out 0).trans rfl;have UR:w56.cell? ⟨Zf,1,none⟩ = some (.int .i64 0):=(blk_cell Zt.out 1).trans rfl;have US:w56.cell? ⟨Zf,2,none⟩ = some (.int .i64 0):=(blk_cell Zt.out 2).trans rfl;have UT:w56.cell? ⟨Zf,3,none⟩ = some (.slice none 0 0):=(blk_cell Zt.out 3).trans rfl;have UU:=blk_frozen Zt.out 0;have UV:=blk_frozen Zt.out 1;have UW:=blk_frozen Zt.out 2;have UX:=blk_frozen Zt.out 3))
      have n0_:Aside0 (Kd.N k44 44 ((((w56.setCell ⟨Zf,0,none⟩ (.int .i64 ((rd_T44 t338 x74_2).f0))).setCell ⟨Zf,1,none⟩ (.int .i64 ((rd_T44 t338 x74_2).f1.f0))).setCell ⟨Zf,2,none⟩ (.int .i64 ((rd_T44 t338 x74_2).f1.f1))).setCell ⟨Zf,3,none⟩ (.slice A355_3 ((rd_T44 t338 x74_2).f1.f2).length c355_3)) w.heap.size (fun k_=>(P0_2_ k_ ∨ w.heap.size ≤ k_)∧some k_ ≠ (.slice (some ZF) t338.length Zn:Value).ownBlock∧some k_ ≠ (u5:Value).ownBlock∧some k_ ≠ (.slice (some ZF) t338.length Zn:Value).ownBlock∧k_ ≠ Zb∧k_ ≠ Zf) (.slice Zy t334.length Zh) t334):=⟨Kd.N_mono (nFN (g:=Zf) Zu.out (fun k_ hk=>hk.2)) (fun _ hk=>⟨hk.1.1,⟨hk.1.2.1,⟨hk.1.2.2.1,⟨hk.1.2.2.2.1,⟨hk.1.2.2.2.2,hk.2⟩⟩⟩⟩⟩)⟩
      have n1_:Aside0 (Kd.N k44 44 ((((w56.setCell ⟨Zf,0,none⟩ (.int .i64 ((rd_T44 t338 x74_2).f0))).setCell ⟨Zf,1,none⟩ (.int .i64 ((rd_T44 t338 x74_2).f1.f0))).setCell ⟨Zf,2,none⟩ (.int .i64 ((rd_T44 t338 x74_2).f1.f1))).setCell ⟨Zf,3,none⟩ (.slice A355_3 ((rd_T44 t338 x74_2).f1.f2).length c355_3)) w.heap.size (fun k_=>(P0_2_ k_ ∨ w.heap.size ≤ k_)∧some k_ ≠ (.slice Zy t334.length Zh:Value).ownBlock∧some k_ ≠ (u5:Value).ownBlock∧k_ ≠ Zb∧k_ ≠ Zf) (.slice (some ZF) t338.length Zn) t338):=⟨Kd.N_mono (nFN (g:=Zf) Zk.out (fun k_ hk=>hk.2)) (fun _ hk=>⟨hk.1.1,⟨hk.1.2.1,⟨hk.1.2.2.1,⟨hk.1.2.2.2,hk.2⟩⟩⟩⟩)⟩
      have n2_:Aside0 (Kd.N k44 44 ((((w56.setCell ⟨Zf,0,none⟩ (.int .i64 ((rd_T44 t338 x74_2).f0))).setCell ⟨Zf,1,none⟩ (.int .i64 ((rd_T44 t338 x74_2).f1.f0))).setCell ⟨Zf,2,none⟩ (.int .i64 ((rd_T44 t338 x74_2).f1.f1))).setCell ⟨Zf,3,none⟩ (.slice A355_3 ((rd_T44 t338 x74_2).f1.f2).length c355_3)) w.heap.size (fun k_=>(P0_2_ k_ ∨ w.heap.size ≤ k_)∧k_ ≠ Zb∧k_ ≠ Zf) u5 x5_2):=⟨Kd.N_mono (nFN (g:=Zf) Zj.out (fun k_ hk=>hk.2)) (fun _ hk=>⟨hk.1.1,⟨hk.1.2,hk.2⟩⟩)⟩
      have n3_:Aside0 (Kd.N k44 44 ((((w56.setCell ⟨Zf,0,none⟩ (.int .i64 ((rd_T44 t338 x74_2).f0))).setCell ⟨Zf,1,none⟩ (.int .i64 ((rd_T44 t338 x74_2).f1.f0))).setCell ⟨Zf,2,none⟩ (.int .i64 ((rd_T44 t338 x74_2).f1.f1))).setCell ⟨Zf,3,none⟩ (.slice A355_3 ((rd_T44 t338 x74_2).f1.f2).length c355_3)) w.heap.size (fun k_=>(P0_2_ k_ ∨ w.heap.size ≤ k_)∧some k_ ≠ (.slice Zy t334.length Zh:Value).ownBlock∧some k_ ≠ (u5:Value).ownBlock∧k_ ≠ Zb∧k_ ≠ Zf) (.slice (some ZF) t338.length Zn) t338):=⟨Kd.N_mono (nFN (g:=Zf) ZD.out (fun k_ hk=>hk.2)) (fun _ hk=>⟨hk.1.1,⟨hk.1.2.1,⟨hk.1.2.2.1,⟨hk.1.2.2.2,hk.2⟩⟩⟩⟩)⟩
      have n4_:Aside0 (Kd.V k29 29 ((((w56.setCell ⟨Zf,0,none⟩ (.int .i64 ((rd_T44 t338 x74_2).f0))).setCell ⟨Zf,1,none⟩ (.int .i64 ((rd_T44 t338 x74_2).f1.f0))).setCell ⟨Zf,2,none⟩ (.int .i64 ((rd_T44 t338 x74_2).f1.f1))).setCell ⟨Zf,3,none⟩ (.slice A355_3 ((rd_T44 t338 x74_2).f1.f2).length c355_3)) w.heap.size (fun k_=>(P0_2_ k_ ∨ w.heap.size ≤ k_)∧some k_ ≠ (.slice Zy t334.length Zh:Value).ownBlock∧some k_ ≠ (.slice (some ZF) t338.length Zn:Value).ownBlock∧some k_ ≠ (u5:Value).ownBlock∧some k_ ≠ (.slice (some ZF) t338.length Zn:Value).ownBlock∧k_ ≠ Zb∧k_ ≠ Zf) (.slice (some Zo) l0_2.length c0_2) l0_2):=⟨Kd.V_mono (nFV (g:=Zf) Zc.out (fun k_ hk=>hk.2)) (fun _ hk=>⟨hk.1.1,⟨hk.1.2.1,⟨hk.1.2.2.1,⟨hk.1.2.2.2.1,⟨hk.1.2.2.2.2.1,⟨hk.1.2.2.2.2.2,hk.2⟩⟩⟩⟩⟩⟩)⟩
      have n5_:Aside0 (Kd.V k29 29 ((((w56.setCell ⟨Zf,0,none⟩ (.int .i64 ((rd_T44 t338 x74_2).f0))).setCell ⟨Zf,1,none⟩ (.int .i64 ((rd_T44 t338 x74_2).f1.f0))).setCell ⟨Zf,2,none⟩ (.int .i64 ((rd_T44 t338 x74_2).f1.f1))).setCell ⟨Zf,3,none⟩ (.slice A355_3 ((rd_T44 t338 x74_2).f1.f2).length c355_3)) w.heap.size (fun k_=>(P0_2_ k_ ∨ w.heap.size ≤ k_)∧some k_ ≠ (.slice Zy t334.length Zh:Value).ownBlock∧some k_ ≠ (u5:Value).ownBlock∧some k_ ≠ (.slice (some ZF) t338.length Zn:Value).ownBlock∧k_ ≠ Zb∧k_ ≠ Zf) (.slice A355_3 ((rd_T44 t338 x74_2).f1.f2).length c355_3) ((rd_T44 t338 x74_2).f1.f2)):=⟨Kd.V_mono (nFV (g:=Zf) ZB.out (fun k_ hk=>hk.2)) (fun _ hk=>⟨hk.1.1.1,⟨hk.1.1.2.1,⟨hk.1.1.2.2.1,⟨hk.1.2,⟨hk.1.1.2.2.2,hk.2⟩⟩⟩⟩⟩)⟩
      have n6_:Aside0 (((((w56.setCell ⟨Zf,0,none⟩ (.int .i64 ((rd_T44 t338 x74_2).f0))).setCell ⟨Zf,1,none⟩ (.int .i64 ((rd_T44 t338 x74_2).f1.f0))).setCell ⟨Zf,2,none⟩ (.int .i64 ((rd_T44 t338 x74_2).f1.f1))).setCell ⟨Zf,3,none⟩ (.slice A355_3 ((rd_T44 t338 x74_2).f1.f2).length c355_3)).heap[Zb]? = some (.cells #[.int .i64 a0_0,.int .i64 a0_1,.slice (some Zo) l0_2.length c0_2] 29 (0,0))):=⟨bF⟩
      have n7_:Aside0 (((((w56.setCell ⟨Zf,0,none⟩ (.int .i64 ((rd_T44 t338 x74_2).f0))).setCell ⟨Zf,1,none⟩ (.int .i64 ((rd_T44 t338 x74_2).f1.f0))).setCell ⟨Zf,2,none⟩ (.int .i64 ((rd_T44 t338 x74_2).f1.f1))).setCell ⟨Zf,3,none⟩ (.slice A355_3 ((rd_T44 t338 x74_2).f1.f2).length c355_3)).heap[Zf]? = some (.cells #[.int .i64 ((rd_T44 t338 x74_2).f0),.int .i64 ((rd_T44 t338 x74_2).f1.f0),.int .i64 ((rd_T44 t338 x74_2).f1.f1),.slice A355_3 ((rd_T44 t338 x74_2).f1.f2).length c355_3] 44 (0,0))):=⟨bP⟩
      have n8_:Aside0 (Below w.heap.size w ((((w56.setCell ⟨Zf,0,none⟩ (.int .i64 ((rd_T44 t338 x74_2).f0))).setCell ⟨Zf,1,none⟩ (.int .i64 ((rd_T44 t338 x74_2).f1.f0))).setCell ⟨Zf,2,none⟩ (.int .i64 ((rd_T44 t338 x74_2).f1.f1))).setCell ⟨Zf,3,none⟩ (.slice A355_3 ((rd_T44 t338 x74_2).f1.f2).length c355_3))):=⟨bB⟩
      (try clear Zu)
      (try clear Zk)
      (try clear Zj)
      (try clear ZD)
      (try clear Zc)
      (try clear ZB)
      (try clear Za)
      (try clear Zt)
      (try clear HB)
      generalize ((((w56.setCell ⟨Zf,0,none⟩ (.int .i64 ((rd_T44 t338 x74_2).f0))).setCell ⟨Zf,1,none⟩ (.int .i64 ((rd_T44 t338 x74_2).f1.f0))).setCell ⟨Zf,2,none⟩ (.int .i64 ((rd_T44 t338 x74_2).f1.f1))).setCell ⟨Zf,3,none⟩ (.slice A355_3 ((rd_T44 t338 x74_2).f1.f2).length c355_3)) = w59 at n0_ n1_ n2_ n3_ n4_ n5_ n6_ n7_ n8_ ⊢
      have Zu:=n0_
      have Zk:=n1_
      have Zj:=n2_
      have ZD:=n3_
      have Zc:=n4_
      have ZB:=n5_
      have Za:=n6_
      have Zt:=n7_
      have HB:=n8_
      clear n0_ n1_ n2_ n3_ n4_ n5_ n6_ n7_ n8_
      replace Zu:=aQ (Kd.N_drew Zu.out)
      replace Zk:=aQ (Kd.N_drew Zk.out)
      replace Zj:=aQ (Kd.N_drew Zj.out)
      replace ZD:=aQ (Kd.N_drew ZD.out)
      replace Zc:=aQ (Kd.V_drew Zc.out)
      replace ZB:=aQ (Kd.V_drew ZB.out)
      replace Za:=aQ (blk_drew Za.out)
      replace Zt:=aQ (blk_drew Zt.out)
      replace HB:=aQ (below_drew1 HB.out)
      have p357:0 ≤ (0:Int):=(by omega)
      have q357:0 < (l0_2.length:Int):=of_decide_eq_true (by first | (with_reducible assumption) | assumption)
      obtain ⟨VK,A357_2,c357_2,e357,YO,YP,Yr,XX,XY⟩:=at_T29 (Kd.V_reads' Zc.out).2.2 0 p357 q357
      obtain rfl:Zo = VK:=(by injection e357)
      obtain ⟨SC,Vt,Vu,WA⟩:=Kd.V_get Zc.out z29 0 p357 (by first | exact q357 | exact of_decide_eq_true (by first | (with_reducible assumption) | assumption) | (have e_:=(Kd.V_reads' Zc.out).1;omega))
      obtain ⟨UY,UZ,rfl,Xt,Xu⟩:=k29_openF Vu
      have YQ:=WA 2 _ rfl
      rw [add_field _ _ 2 (by omega)] at YQ
      replace YQ:=Option.some.inj (YQ.symm.trans Yr)
      injection YQ with hva_ hvn_ hvc_
      rw [hva_] at Xu
      rw [hvc_] at Xt
      have ZX:=aQ (show Kd.V k29 29 _ w.heap.size _ _ ((rd_T29 l0_2 0).f2) from Kd.V_mk Xt Xu)
      clear hva_ hvn_ hvc_ Xu Xt
      clear WA Vt
      have qi357:(0 < l0_2.length) = True:=eq_true (by omega)
      (try rw [show ((0:Int)).toNat = 0 from rfl,show 0 * 3 = 0 from rfl] at YO YP Yr)
      (try rw [Addr.add_zero'] at YO)
      (try rw [Addr.add_zero'] at YP)
      (try rw [Addr.add_zero'] at Yr)
      have Xv:=aQ XY
      have Ta:=aQ XX
      clear XY XX
      replace p357:=eq_true p357
      replace q357:=eq_true q357
      refine start_ (n:=14) (S:=fun w'=>w'.cell? ⟨Zf,0,none⟩ = some (.int .i64 ((rd_T44 t338 x74_2).f0))∧w'.cell? ⟨Zf,1,none⟩ = some (.int .i64 ((rd_T44 t338 x74_2).f1.f0))∧w'.cell? ⟨Zf,2,none⟩ = some (.int .i64 ((rd_T44 t338 x74_2).f1.f1))∧w'.cell? ⟨Zf,3,none⟩ = some (.slice A355_3 ((rd_T44 t338 x74_2).f1.f2).length c355_3)∧w'.cell? ⟨Zb,0,none⟩ = some (.int .i64 a0_0)∧w'.cell? ⟨Zb,1,none⟩ = some (.int .i64 a0_1)∧w'.cell? ⟨Zb,2,none⟩ = some (.slice (some Zo) l0_2.length c0_2)∧w'.cell? Zo = some (.int .i64 ((rd_T29 l0_2 0).f0))∧w'.cell? ⟨Zo.block,Zo.off + 1,none⟩ = some (.int .i64 ((rd_T29 l0_2 0).f1))∧w'.cell? ⟨Zo.block,Zo.off + 2,none⟩ = some (.slice A357_2 ((rd_T29 l0_2 0).f2).length c357_2)) (ds:=[11,12]) (bn 14 0) (by kernel_rfl) rfl rfl ⟨(blk_cell Zt.out 0).trans rfl,(blk_cell Zt.out 1).trans rfl,(blk_cell Zt.out 2).trans rfl,(blk_cell Zt.out 3).trans rfl,(blk_cell Za.out 0).trans rfl,(blk_cell Za.out 1).trans rfl,(blk_cell Za.out 2).trans rfl,YO,YP,Yr⟩ (fun hHeld=>?_);refine with_tabW impl_ticksOf.tab17 impl_ticksOf.bits17 (fun HT_ HW_=>?_)
      generalize w59.drew = w60 at Zu Zk Zj ZD Zc ZB Za Zt HB ZX Xv YO YP Yr hHeld ⊢
      refine pur (i:=0) (N:=some 78) (bn 14 1) ?_
      refine pur (i:=1) (N:=some 79) (bn 14 3) ?_
      refine pur (i:=3) (N:=some 81) (bn 14 11) ?_
      refine pur (i:=7) (N:=some 85) (bn 14 139) ?_
      refine tak (i:=2) (N:=some 80) (bn 14 143) ?_
      refine tak (i:=4) (N:=some 82) (bn 14 159) ?_
      refine pur (i:=5) (N:=some 83) (bn 14 191) ?_
      refine tak (i:=6) (N:=some 84) (bn 14 255) ?_
      refine tak (i:=8) (N:=some 86) (bn 14 511) ?_
      refine one_ (i:=9) (N:=some 87) (bn 14 1023) rfl rfl (one_of HT_.out (by kernel_rfl)) (by decide) (fun K hK=>?_)
      refine goes1 Try.func62 #[.agg #[.int .i64 ((rd_T29 l0_2 0).f0),.int .i64 ((rd_T29 l0_2 0).f1),.slice A357_2 ((rd_T29 l0_2 0).f2).length c357_2],.agg #[.int .i64 ((rd_T44 t338 x74_2).f1.f0),.int .i64 ((rd_T44 t338 x74_2).f1.f1),.slice A355_3 ((rd_T44 t338 x74_2).f1.f2).length c355_3]] ?_
      with_reducible refine (impl_beside.calls ((rd_T29 l0_2 0).f0) ((rd_T29 l0_2 0).f1) (fun k_=>((P0_2_ k_ ∨ w.heap.size ≤ k_)∧(some k_ ≠ (.slice Zy t334.length Zh:Value).ownBlock∧(some k_ ≠ (.slice (some ZF) t338.length Zn:Value).ownBlock∧(some k_ ≠ (u5:Value).ownBlock∧(some k_ ≠ (.slice (some ZF) t338.length Zn:Value).ownBlock∧(k_ ≠ Zb∧k_ ≠ Zf))))))) _ _ ((rd_T29 l0_2 0).f2) ((rd_T44 t338 x74_2).f1.f0) ((rd_T44 t338 x74_2).f1.f1) (fun k_=>((P0_2_ k_ ∨ w.heap.size ≤ k_)∧(some k_ ≠ (.slice Zy t334.length Zh:Value).ownBlock∧(some k_ ≠ (u5:Value).ownBlock∧(some k_ ≠ (.slice (some ZF) t338.length Zn:Value).ownBlock∧(k_ ≠ Zb∧k_ ≠ Zf)))))) _ _ ((rd_T44 t338 x74_2).f1.f2) t358 t359 t360 _ ?ZO ?YZ A54.out).mono ?_
      (case ZO=>exact ZX.out)
      (case YZ=>exact ZB.out)
      rintro e w61 ⟨v361,rfl,ho0,hb⟩
      have HS7_:=(hb.cell (World.block_lt_of_cell? _ _ (hHeld.2.2.2.2.2.2.2.1))).trans (hHeld.2.2.2.2.2.2.2.1)
      have HS8_:=(hb.cell (World.block_lt_of_cell? _ _ (hHeld.2.2.2.2.2.2.2.2.1))).trans (hHeld.2.2.2.2.2.2.2.2.1)
      have HS9_:=(hb.cell (World.block_lt_of_cell? _ _ (hHeld.2.2.2.2.2.2.2.2.2))).trans (hHeld.2.2.2.2.2.2.2.2.2)
      refine ⟨_,rfl,?_⟩
      replace Zk:=aQ (Kd.N_elder' (nN Zk.out) (Kd.N_base ho0) hb)
      replace Zc:=aQ (Kd.V_elder' (nV Zc.out) (Kd.N_base ho0) hb)
      replace ZB:=aQ (Kd.V_elder' (nV ZB.out) (Kd.N_base ho0) hb)
      replace ZX:=aQ (Kd.V_elder' (nV ZX.out) (Kd.N_base ho0) hb)
      have XD:=aQ (Kd.N_lower (Kd.N_mono (ok':=fun k_=>(P0_2_ k_ ∨ w.heap.size ≤ k_)∧some k_ ≠ (.slice Zy t334.length Zh:Value).ownBlock∧some k_ ≠ (u5:Value).ownBlock∧some k_ ≠ (.slice (some ZF) t338.length Zn:Value).ownBlock∧k_ ≠ Zb∧k_ ≠ Zf) ho0 (fun k_ hk_=>⟨Or.elim hk_ (fun hs_=>Or.elim hs_ (fun hs_=>hs_.1) (fun hs_=>hs_.1)) (fun hn_=>(.inr (Nat.le_trans (below_size bB) hn_))),Or.elim hk_ (fun hs_=>Or.elim hs_ (fun hs_=>hs_.2.1) (fun hs_=>hs_.2.1)) (fun hn_=>(Kd.fresh' (Kd.N_lt (nN Zu.out)) k_ hn_)),Or.elim hk_ (fun hs_=>Or.elim hs_ (fun hs_=>hs_.2.2.2.1) (fun hs_=>hs_.2.2.1)) (fun hn_=>(Kd.fresh' (Kd.N_lt (nN Zj.out)) k_ hn_)),Or.elim hk_ (fun hs_=>Or.elim hs_ (fun hs_=>hs_.2.2.2.2.1) (fun hs_=>hs_.2.2.2.1)) (fun hn_=>(Kd.fresh' (Kd.N_lt (nN ZD.out)) k_ hn_)),Or.elim hk_ (fun hs_=>Or.elim hs_ (fun hs_=>hs_.2.2.2.2.2.1) (fun hs_=>hs_.2.2.2.2.1)) (fun hn_=>(Kd.freshB (nB Za.out) k_ hn_)),Or.elim hk_ (fun hs_=>Or.elim hs_ (fun hs_=>hs_.2.2.2.2.2.2) (fun hs_=>hs_.2.2.2.2.2)) (fun hn_=>(Kd.freshB (nB Zt.out) k_ hn_))⟩)) (below_size bB))
      replace Zu:=aQ (Kd.N_elder' (nN Zu.out) (Kd.N_base ho0) hb)
      replace Zj:=aQ (Kd.N_elder' (nN Zj.out) (Kd.N_base ho0) hb)
      replace ZD:=aQ (Kd.N_elder' (nN ZD.out) (Kd.N_base ho0) hb)
      replace Za:=aQ (blk_below (nB Za.out) hb)
      replace Zt:=aQ (blk_below (nB Zt.out) hb)
      replace Xv:=aQ (Kd.C_below (nC Xv.out) hb)
      replace HB:=aQ (below_step bB hb)
      (try clear hb)
      (try clear ho0)
      obtain ⟨YU,YV,Vv⟩:=Kd.N_slice XD.out
      (first | subst Vv | (injection Vv with f1_ f2_ f3_;have f4_:=f1_.symm;have f5_:=f3_.symm;clear f1_ f2_ f3_;subst f4_;subst f5_))
      refine hK.out _ _ ⟨(blk_cell Zt.out 0).trans rfl,(blk_cell Zt.out 1).trans rfl,(blk_cell Zt.out 2).trans rfl,(blk_cell Zt.out 3).trans rfl,(blk_cell Za.out 0).trans rfl,(blk_cell Za.out 1).trans rfl,(blk_cell Za.out 2).trans rfl,HS7_,HS8_,HS9_⟩ (fun hHeld=>?_)
      clear hK K
      refine nrm (N:=some 87) ?_
      refine pur (i:=10) (N:=some 88) (bn 14 2047) ?_
      refine last_ (i:=11) (N:=some 89) (bn 14 4095) rfl rfl (one_of HT_.out (by kernel_rfl)) (by decide) (fun K hK=>?_)
      refine value_ (w1:=?_) (v:=?_) (by rfl) rfl ?_ ?_
      rotate_left 2
      ·go_simp
       constructor
       ·rfl
       ·rfl
      refine hK.out _ _ ?_
      clear hK K
      refine nrm (N:=some 89) ?_
      refine last_ (i:=12) (N:=some 90) (bn 14 8191) rfl rfl (one_of HT_.out (by kernel_rfl)) (by decide) (fun K hK=>?_)
      refine Kd.N_append_step k44 (w0:=w) w.heap.size (by rfl) (.tmp 78) (.tmp 89) 35 44 (.agg #[(.int .i64 0),(.int .i64 0),(.int .i64 0),(.slice none 0 0)]) 48 rfl Try.underlying35 info44 rfl (by decide) (by omega) u5 x5_2 (⟨(rd_T44 t338 x74_2).f0,(⟨t358,t359,t360⟩:S29)⟩:S44) [.int .i64 ((rd_T44 t338 x74_2).f0),.int .i64 t358,.int .i64 t359,.slice YU t360.length YV] (fun k_=>(P0_2_ k_ ∨ w.heap.size ≤ k_)∧k_ ≠ Zb∧k_ ≠ Zf) (fun k_=>((fun k_=>(P0_2_ k_ ∨ w.heap.size ≤ k_)∧k_ ≠ Zb∧k_ ≠ Zf)) k_∧some k_ ≠ (u5:Value).ownBlock) rfl rfl ?aP (fun _ hk=>hk) ?aF ?aO ?aB ?aS ?aL ?_
      (case aP=>exact (k44_mkF _ _ (⟨(rd_T44 t338 x74_2).f0,(⟨t358,t359,t360⟩:S29)⟩:S44) (Kd.N_reads' (Kd.N_mono (ok':=(fun k_=>((fun k_=>(P0_2_ k_ ∨ w.heap.size ≤ k_)∧k_ ≠ Zb∧k_ ≠ Zf)) k_∧some k_ ≠ (u5:Value).ownBlock)) (XD.out) (fun k_ hk=>⟨⟨hk.1,⟨hk.2.2.2.2.1,hk.2.2.2.2.2⟩⟩,hk.2.2.1⟩))).2.1 (Kd.N_F (Kd.N_mono (ok':=(fun k_=>((fun k_=>(P0_2_ k_ ∨ w.heap.size ≤ k_)∧k_ ≠ Zb∧k_ ≠ Zf)) k_∧some k_ ≠ (u5:Value).ownBlock)) (XD.out) (fun k_ hk=>⟨⟨hk.1,⟨hk.2.2.2.2.1,hk.2.2.2.2.2⟩⟩,hk.2.2.1⟩)))))
      (case aB=>exact bB)
      (case aF=>exact (fun k_ hk=>⟨(.inr (Nat.le_trans (below_size bB) hk)),Kd.freshB (nB Za.out) k_ hk,Kd.freshB (nB Zt.out) k_ hk⟩))
      (case aO=>exact (nN (Kd.N_mono Zj.out (fun _ hk=>⟨hk.1.1,⟨hk.1.2.1,hk.1.2.2⟩⟩))))
      (case aS=>exact (below_size bB))
      (case aL=>have:=LMc55.out;omega)
      intro v364 w63 ho hb hg hat
      rw [← VI.out] at ho
      have n0_:=aQ (Kd.N_afterv (ok:=(fun k_=>(P0_2_ k_ ∨ w.heap.size ≤ k_)∧some k_ ≠ (.slice (some ZF) t338.length Zn:Value).ownBlock∧some k_ ≠ (.slice (some ZF) t338.length Zn:Value).ownBlock∧some k_ ≠ (.slice YU t360.length YV:Value).ownBlock∧k_ ≠ Zb∧k_ ≠ Zf)) (nN (Kd.N_mono Zu.out (fun _ hk=>⟨⟨hk.1.1,⟨hk.1.2.1,⟨hk.1.2.2.2.1,⟨hk.2,⟨hk.1.2.2.2.2.1,hk.1.2.2.2.2.2⟩⟩⟩⟩⟩,hk.1.2.2.1⟩))) hg hat)
      have n1_:=aQ (Kd.N_afterv (ok:=(fun k_=>(P0_2_ k_ ∨ w.heap.size ≤ k_)∧some k_ ≠ (.slice Zy t334.length Zh:Value).ownBlock∧some k_ ≠ (.slice YU t360.length YV:Value).ownBlock∧k_ ≠ Zb∧k_ ≠ Zf)) (nN (Kd.N_mono Zk.out (fun _ hk=>⟨⟨hk.1.1,⟨hk.1.2.1,⟨hk.2,⟨hk.1.2.2.2.1,hk.1.2.2.2.2⟩⟩⟩⟩,hk.1.2.2.1⟩))) hg hat)
      have n2_:=aQ (Kd.N_afterv (ok:=(fun k_=>(P0_2_ k_ ∨ w.heap.size ≤ k_)∧some k_ ≠ (.slice Zy t334.length Zh:Value).ownBlock∧some k_ ≠ (.slice YU t360.length YV:Value).ownBlock∧k_ ≠ Zb∧k_ ≠ Zf)) (nN (Kd.N_mono ZD.out (fun _ hk=>⟨⟨hk.1.1,⟨hk.1.2.1,⟨hk.2,⟨hk.1.2.2.2.1,hk.1.2.2.2.2⟩⟩⟩⟩,hk.1.2.2.1⟩))) hg hat)
      have n3_:=aQ (Kd.V_afterv (ok:=(fun k_=>(P0_2_ k_ ∨ w.heap.size ≤ k_)∧some k_ ≠ (.slice Zy t334.length Zh:Value).ownBlock∧some k_ ≠ (.slice (some ZF) t338.length Zn:Value).ownBlock∧some k_ ≠ (.slice (some ZF) t338.length Zn:Value).ownBlock∧some k_ ≠ (.slice YU t360.length YV:Value).ownBlock∧k_ ≠ Zb∧k_ ≠ Zf)) (nV (Kd.V_mono Zc.out (fun _ hk=>⟨⟨hk.1.1,⟨hk.1.2.1,⟨hk.1.2.2.1,⟨hk.1.2.2.2.2.1,⟨hk.2,⟨hk.1.2.2.2.2.2.1,hk.1.2.2.2.2.2.2⟩⟩⟩⟩⟩⟩,hk.1.2.2.2.1⟩))) hg hat)
      have n4_:=aQ (blk_grown (nB Za.out) hg (Kd.N_ne Zj.out Za.out (by decide)))
      have n5_:=aQ (Kd.V_afterv (ok:=(fun k_=>(P0_2_ k_ ∨ w.heap.size ≤ k_)∧some k_ ≠ (.slice Zy t334.length Zh:Value).ownBlock∧some k_ ≠ (.slice (some ZF) t338.length Zn:Value).ownBlock∧some k_ ≠ (.slice YU t360.length YV:Value).ownBlock∧k_ ≠ Zb∧k_ ≠ Zf)) (nV (Kd.V_mono ZB.out (fun _ hk=>⟨⟨hk.1.1,⟨hk.1.2.1,⟨hk.1.2.2.2.1,⟨hk.2,⟨hk.1.2.2.2.2.1,hk.1.2.2.2.2.2⟩⟩⟩⟩⟩,hk.1.2.2.1⟩))) hg hat)
      have n6_:=aQ (blk_grown (nB Zt.out) hg (Kd.N_away Zj.out (fun _ hk=>hk.1.2.2)))
      have n7_:=aQ (Kd.V_afterv (ok:=(fun k_=>(P0_2_ k_ ∨ w.heap.size ≤ k_)∧some k_ ≠ (.slice Zy t334.length Zh:Value).ownBlock∧some k_ ≠ (.slice (some ZF) t338.length Zn:Value).ownBlock∧some k_ ≠ (.slice (some ZF) t338.length Zn:Value).ownBlock∧some k_ ≠ (.slice YU t360.length YV:Value).ownBlock∧k_ ≠ Zb∧k_ ≠ Zf)) (nV (Kd.V_mono ZX.out (fun _ hk=>⟨⟨hk.1.1,⟨hk.1.2.1,⟨hk.1.2.2.1,⟨hk.1.2.2.2.2.1,⟨hk.2,⟨hk.1.2.2.2.2.2.1,hk.1.2.2.2.2.2.2⟩⟩⟩⟩⟩⟩,hk.1.2.2.2.1⟩))) hg hat)
      have n8_:=aQ (hb)
      have n9_:=aQ (ho)
      clear Zu Zk ZD Zc Za ZB Zt ZX HB Zj XD
      have Zu:=n0_
      have Zk:=n1_
      have ZD:=n2_
      have Zc:=n3_
      have Za:=n4_
      have ZB:=n5_
      have Zt:=n6_
      have ZX:=n7_
      have HB:=n8_
      have VL:=n9_
      clear n0_ n1_ n2_ n3_ n4_ n5_ n6_ n7_ n8_ n9_
      clear ho hb hg hat
      refine hK.out _ _ ?_
      clear hK K
      refine nrm (N:=some 90) ?_
      refine pur (i:=13) (N:=some 5) (bn 14 16383) ?_
      refine done_ (done_of HT_.out (by kernel_rfl)) ?_
      try go_wp2
      go_roundg k2
      case measure=>have:=HK1.out;have:=HK2.out;omega
      case rel=>exact ⟨(y363),(wrap64 (x74_2 + 1)),rfl,H',⟨by have:=HK1.out;have:=HK2.out;omega⟩,⟨nN (Kd.N_mono Zu.out (fun _ hk=>⟨hk.1.1,⟨hk.1.2.1,⟨hk.2,⟨hk.1.2.2.1,hk.1.2.2.2.2.1⟩⟩⟩⟩))⟩,⟨nN (Kd.N_mono Zk.out (fun _ hk=>⟨hk.1.1,⟨hk.1.2.1,⟨hk.2,hk.1.2.2.2.1⟩⟩⟩))⟩,⟨nN (Kd.N_mono VL.out (fun _ hk=>⟨hk.1,hk.2.1⟩))⟩,⟨nN (Kd.N_mono ZD.out (fun _ hk=>⟨hk.1.1,⟨hk.1.2.1,⟨hk.2,hk.1.2.2.2.1⟩⟩⟩))⟩,⟨nV (Kd.V_mono Zc.out (fun _ hk=>⟨hk.1.1,⟨hk.1.2.1,⟨hk.1.2.2.1,⟨hk.2,⟨hk.1.2.2.2.1,hk.1.2.2.2.2.2.1⟩⟩⟩⟩⟩))⟩,⟨nB Za.out⟩,⟨bB⟩⟩
     rw [if_neg c50] at H
     have c50b0:decide (x74_2 < (t338.length:Int)) = false:=decide_eq_false c50
     clear c50
     have H':=aQ H
     clear H
     go_wp2
     go_loopg [5,94] k2 (fun kq v5 v94 w'=>∃ (x5_3:List (S44)) (x94_3:Int),v94 = .int .i64 x94_3∧Aside0 (impl_ticksOf.l2 kq t338 x5_3 t334 (t334.length:Int) x94_3 = some r)∧Aside0 (kq ≤ k2)∧Aside0 (Kd.N k44 44 w' w.heap.size (fun k_=>(P0_2_ k_ ∨ w.heap.size ≤ k_)∧some k_ ≠ (v5:Value).ownBlock∧some k_ ≠ ((.slice Zy t334.length Zh):Value).ownBlock∧k_ ≠ Zb) (.slice ZK t338.length Zn) t338)∧Aside0 (Kd.N k44 44 w' w.heap.size (fun k_=>(P0_2_ k_ ∨ w.heap.size ≤ k_)∧k_ ≠ Zb) v5 x5_3)∧Aside0 (Kd.N k44 44 w' w.heap.size (fun k_=>(P0_2_ k_ ∨ w.heap.size ≤ k_)∧some k_ ≠ ((.slice ZK t338.length Zn):Value).ownBlock∧some k_ ≠ (v5:Value).ownBlock∧k_ ≠ Zb) (.slice Zy t334.length Zh) t334)∧Aside0 (Kd.V k29 29 w' w.heap.size (fun k_=>(P0_2_ k_ ∨ w.heap.size ≤ k_)∧some k_ ≠ ((.slice ZK t338.length Zn):Value).ownBlock∧some k_ ≠ (v5:Value).ownBlock∧some k_ ≠ ((.slice Zy t334.length Zh):Value).ownBlock∧k_ ≠ Zb) (.slice (some Zo) l0_2.length c0_2) l0_2)∧Aside0 (w'.heap[Zb]? = some (.cells #[.int .i64 a0_0,.int .i64 a0_1,(.slice (some Zo) l0_2.length c0_2)] 29 (0,0)))∧Aside0 (Below w.heap.size w w'))
     case atStart=>exact ⟨(x5_2),(0),rfl,H',⟨Nat.le_refl _⟩,⟨nN (Kd.N_mono Zk.out (fun _ hk=>⟨hk.1,⟨hk.2.2.1,⟨hk.2.1,hk.2.2.2⟩⟩⟩))⟩,⟨nN Zj.out⟩,⟨nN (Kd.N_mono Zu.out (fun _ hk=>⟨hk.1,⟨hk.2.1,⟨hk.2.2.1,hk.2.2.2.2⟩⟩⟩))⟩,⟨nV (Kd.V_mono Zc.out (fun _ hk=>⟨hk.1,⟨hk.2.2.1,⟨hk.2.2.2.1,⟨hk.2.1,hk.2.2.2.2.2⟩⟩⟩⟩))⟩,⟨nB Za.out⟩,⟨bB⟩⟩
     case round =>
      clear H'
      try clear c50b0
      repeat (first | clear Zk | clear Zj | clear Zq | clear Zc | clear Za | clear HB)
      obtain ⟨x5_3,x94_3,rfl,HA,HK3,Zk,Zj,Zq,Zc,Za,HB⟩:=hrel
      cases gk with
      | zero=>exact absurd HA.out (by simp [impl_ticksOf.l2])
      | succ k3 =>
       have H:=HA.out
       clear HA
       simp only [impl_ticksOf.l2] at H
       by_cases c64:x94_3 < (t334.length:Int);rotate_left
       ·rw [if_neg c64] at H
        have c64b0:decide (x94_3 < (t334.length:Int)) = false:=decide_eq_false c64
        clear c64
        obtain rfl:=Option.some.inj H
        go_wp2
        go_ret
        exact ⟨_,rfl,by (with_reducible repeat (first | apply Kd.N_alloc | apply Kd.N_drewN | apply Kd.N_drew));exact Kd.N_mono Zj.out (fun _ hk=>hk.1),bB⟩
       rw [if_pos c64] at H
       have c64b0:decide (x94_3 < (t334.length:Int)) = true:=decide_eq_true c64
       clear c64
       by_cases c65:0 ≤ x94_3;rotate_left
       ·rw [if_neg c65] at H
        exact absurd H (by simp)
       rw [if_pos c65] at H
       have c65b0:decide (0 ≤ x94_3) = true:=decide_eq_true c65
       clear c65
       by_cases c66:x94_3 < (t334.length:Int);rotate_left
       ·rw [if_neg c66] at H
        exact absurd H (by simp)
       rw [if_pos c66] at H
       have c66b0:decide (x94_3 < (t334.length:Int)) = true:=decide_eq_true c66
       clear c66
       have H':=aQ H
       clear H
       have p366:0 ≤ (x94_3:Int):=of_decide_eq_true (by first | (with_reducible assumption) | assumption)
       have q366:x94_3 < (t334.length:Int):=of_decide_eq_true (by first | (with_reducible assumption) | assumption)
       obtain ⟨ZE,A366_3,c366_3,e366,WQ,WR,WS,XZ,Wa,Wb⟩:=at_T44 (Kd.N_reads' Zq.out).2.2 x94_3 p366 q366
       cases e366
       obtain ⟨SD,Vw,Vx,WB⟩:=Kd.N_get Zq.out z44 x94_3 p366 (by first | exact q366 | exact of_decide_eq_true (by first | (with_reducible assumption) | assumption) | (have e_:=(Kd.N_reads' Zq.out).1;omega))
       obtain ⟨Tb,Tc,rfl,Xw,Xx⟩:=k44_openF Vx
       have YR:=WB 3 _ rfl
       rw [add_field _ _ 3 (by omega)] at YR
       replace YR:=Option.some.inj (YR.symm.trans XZ)
       injection YR with hva_ hvn_ hvc_
       rw [hva_] at Xx
       rw [hvc_] at Xw
       have Xy:=aQ (show Kd.V k29 29 _ w.heap.size _ _ ((rd_T44 t334 x94_3).f1.f2) from Kd.V_mk Xw Xx)
       clear hva_ hvn_ hvc_ Xx Xw
       clear WB Vw
       have Wc:=aQ Wb
       have Td:=aQ Wa
       clear Wb Wa
       replace p366:=eq_true p366
       replace q366:=eq_true q366
       go_wp2_with (first | ((with_reducible refine gate_dst (N:=11) rfl ?_);refine box1 (N:=11) (cs:=#[.int .i64 0,.int .i64 0,.int .i64 0,.slice none 0 0]) (t:=44) ?_;intro Zg hg w67 hbox hb;replace Zk:=aQ (Kd.N_below (Kd.N_elderB (nN Zk.out) Zg (Nat.le_of_eq hg.symm)) hb);replace Zj:=aQ (Kd.N_below (Kd.N_elderB (nN Zj.out) Zg (Nat.le_of_eq hg.symm)) hb);replace Zq:=aQ (Kd.N_below (Kd.N_elderB (nN Zq.out) Zg (Nat.le_of_eq hg.symm)) hb);replace Zc:=aQ (Kd.V_below (Kd.V_elderB (nV Zc.out) Zg (Nat.le_of_eq hg.symm)) hb);replace Xy:=aQ (Kd.V_below (Kd.V_elderB (nV Xy.out) Zg (Nat.le_of_eq hg.symm)) hb);replace Wc:=aQ (Kd.C_below (nC Wc.out) hb);have Zi:=aQ (hbox);have VM:=aQ (gB:w.heap.size ≤ Zg);have SE:=VM;replace HB:=aQ (below_step bB hb);have ZY:=aQ ((by rw [hg];exact Nat.ne_of_lt (blk_lt (nB Za.out)):Zb ≠ Zg));have Yf:=aQ ZY.out.symm;replace Za:=aQ (blk_below (nB Za.out) hb);clear hb hbox hg;have SF:=Yf.out;have SG:=ZY.out;have WT:w67.cell? ⟨Zg,0,none⟩ = some (.int .i64 0):=(blk_cell Zi.out 0).trans rfl;have WU:w67.cell? ⟨Zg,1,none⟩ = some (.int .i64 0):=(blk_cell Zi.out 1).trans rfl;have WV:w67.cell? ⟨Zg,2,none⟩ = some (.int .i64 0):=(blk_cell Zi.out 2).trans rfl;have WW:w67.cell? ⟨Zg,3,none⟩ = some (.slice none 0 0):=(blk_cell Zi.out 3).trans rfl;have WX:=blk_frozen Zi.out 0;have WY:=blk_frozen Zi.out 1;have WZ:=blk_frozen Zi.out 2;have Va:=blk_frozen Zi.out 3))
       go_loopg [5,100] k3 (fun kq v5 v100 w'=>∃ (x5_4:List (S44)) (x100_4:Int),v100 = .int .i64 x100_4∧Aside0 (impl_ticksOf.l3 kq t338 x5_4 t334 (t334.length:Int) x94_3 t338 (t338.length:Int) x100_4 ((rd_T44 t334 x94_3).f0) ((rd_T44 t334 x94_3).f1.f0) ((rd_T44 t334 x94_3).f1.f1) ((rd_T44 t334 x94_3).f1.f2) = some r)∧Aside0 (kq ≤ k3)∧Aside0 (Kd.N k44 44 w' w.heap.size (fun k_=>(P0_2_ k_ ∨ w.heap.size ≤ k_)∧some k_ ≠ (v5:Value).ownBlock∧some k_ ≠ ((.slice (some ZE) t334.length Zh):Value).ownBlock∧k_ ≠ Zb∧k_ ≠ Zg) (.slice ZK t338.length Zn) t338)∧Aside0 (Kd.N k44 44 w' w.heap.size (fun k_=>(P0_2_ k_ ∨ w.heap.size ≤ k_)∧k_ ≠ Zb∧k_ ≠ Zg) v5 x5_4)∧Aside0 (Kd.N k44 44 w' w.heap.size (fun k_=>(P0_2_ k_ ∨ w.heap.size ≤ k_)∧some k_ ≠ ((.slice ZK t338.length Zn):Value).ownBlock∧some k_ ≠ (v5:Value).ownBlock∧some k_ ≠ ((.slice ZK t338.length Zn):Value).ownBlock∧k_ ≠ Zb∧k_ ≠ Zg) (.slice (some ZE) t334.length Zh) t334)∧Aside0 (Kd.N k44 44 w' w.heap.size (fun k_=>(P0_2_ k_ ∨ w.heap.size ≤ k_)∧some k_ ≠ (v5:Value).ownBlock∧some k_ ≠ ((.slice (some ZE) t334.length Zh):Value).ownBlock∧k_ ≠ Zb∧k_ ≠ Zg) (.slice ZK t338.length Zn) t338)∧Aside0 (Kd.V k29 29 w' w.heap.size (fun k_=>(P0_2_ k_ ∨ w.heap.size ≤ k_)∧some k_ ≠ ((.slice ZK t338.length Zn):Value).ownBlock∧some k_ ≠ (v5:Value).ownBlock∧some k_ ≠ ((.slice (some ZE) t334.length Zh):Value).ownBlock∧some k_ ≠ ((.slice ZK t338.length Zn):Value).ownBlock∧k_ ≠ Zb∧k_ ≠ Zg) (.slice (some Zo) l0_2.length c0_2) l0_2)∧Aside0 (Kd.V k29 29 w' w.heap.size (fun k_=>(P0_2_ k_ ∨ w.heap.size ≤ k_)∧some k_ ≠ ((.slice ZK t338.length Zn):Value).ownBlock∧some k_ ≠ (v5:Value).ownBlock∧some k_ ≠ ((.slice (some ZE) t334.length Zh):Value).ownBlock∧some k_ ≠ ((.slice ZK t338.length Zn):Value).ownBlock∧k_ ≠ Zb∧k_ ≠ Zg) (.slice A366_3 ((rd_T44 t334 x94_3).f1.f2).length c366_3) ((rd_T44 t334 x94_3).f1.f2))∧Aside0 (w'.heap[Zb]? = some (.cells #[.int .i64 a0_0,.int .i64 a0_1,(.slice (some Zo) l0_2.length c0_2)] 29 (0,0)))∧Aside0 (w'.heap[Zg]? = some (.cells #[.int .i64 ((rd_T44 t334 x94_3).f0),.int .i64 ((rd_T44 t334 x94_3).f1.f0),.int .i64 ((rd_T44 t334 x94_3).f1.f1),(.slice A366_3 ((rd_T44 t334 x94_3).f1.f2).length c366_3)] 44 (0,0)))∧Aside0 (Below w.heap.size w w'))
       case atStart=>exact ⟨(x5_3),(0),rfl,H',⟨Nat.le_refl _⟩,⟨Kd.N_mono (nFN (g:=Zg) Zk.out (fun k_ hk=>hk.2)) (fun _ hk=>⟨hk.1.1,⟨hk.1.2.1,⟨hk.1.2.2.1,⟨hk.1.2.2.2,hk.2⟩⟩⟩⟩)⟩,⟨Kd.N_mono (nFN (g:=Zg) Zj.out (fun k_ hk=>hk.2)) (fun _ hk=>⟨hk.1.1,⟨hk.1.2,hk.2⟩⟩)⟩,⟨Kd.N_mono (nFN (g:=Zg) Zq.out (fun k_ hk=>hk.2)) (fun _ hk=>⟨hk.1.1,⟨hk.1.2.1,⟨hk.1.2.2.1,⟨hk.1.2.1,⟨hk.1.2.2.2,hk.2⟩⟩⟩⟩⟩)⟩,⟨Kd.N_mono (nFN (g:=Zg) Zk.out (fun k_ hk=>hk.2)) (fun _ hk=>⟨hk.1.1,⟨hk.1.2.1,⟨hk.1.2.2.1,⟨hk.1.2.2.2,hk.2⟩⟩⟩⟩)⟩,⟨Kd.V_mono (nFV (g:=Zg) Zc.out (fun k_ hk=>hk.2)) (fun _ hk=>⟨hk.1.1,⟨hk.1.2.1,⟨hk.1.2.2.1,⟨hk.1.2.2.2.1,⟨hk.1.2.1,⟨hk.1.2.2.2.2,hk.2⟩⟩⟩⟩⟩⟩)⟩,⟨Kd.V_mono (nFV (g:=Zg) Xy.out (fun k_ hk=>hk.2)) (fun _ hk=>⟨hk.1.1.1,⟨hk.1.1.2.1,⟨hk.1.1.2.2.1,⟨hk.1.2,⟨hk.1.1.2.1,⟨hk.1.1.2.2.2,hk.2⟩⟩⟩⟩⟩⟩)⟩,⟨bF⟩,⟨bP⟩,⟨bB⟩⟩
       case round =>
        clear H'
        try clear c64b0
        try clear c65b0
        try clear c66b0
        try clear WT
        try clear WU
        try clear WV
        try clear WW
        try clear WX
        try clear WY
        try clear WZ
        try clear Va
        try clear WQ
        try clear WR
        try clear WS
        try clear XZ
        try clear p366
        try clear q366
        repeat (first | clear Zk | clear Zj | clear Zq | clear Zr | clear Zc | clear Zp | clear Za | clear Zi | clear HB)
        obtain ⟨x5_4,x100_4,rfl,HA,HK4,Zk,Zj,Zq,Zr,Zc,Zp,Za,Zi,HB⟩:=hrel
        cases gk with
        | zero=>exact absurd HA.out (by simp [impl_ticksOf.l3])
        | succ k4 =>
         have H:=HA.out
         clear HA
         simp only [impl_ticksOf.l3] at H
         by_cases c70:x100_4 < (t338.length:Int);rotate_left
         ·rw [if_neg c70] at H
          have c70b0:decide (x100_4 < (t338.length:Int)) = false:=decide_eq_false c70
          clear c70
          have H':=aQ H
          clear H
          go_wp2
          go_roundg k4
          case measure=>have:=HK1.out;have:=HK2.out;have:=HK3.out;have:=HK4.out;omega
          case rel=>exact ⟨(x5_4),(wrap64 (x94_3 + 1)),rfl,H',⟨by have:=HK1.out;have:=HK2.out;have:=HK3.out;have:=HK4.out;omega⟩,⟨nN (Kd.N_mono Zk.out (fun _ hk=>⟨hk.1,⟨hk.2.1,⟨hk.2.2.1,hk.2.2.2.1⟩⟩⟩))⟩,⟨nN (Kd.N_mono Zj.out (fun _ hk=>⟨hk.1,hk.2.1⟩))⟩,⟨nN (Kd.N_mono Zq.out (fun _ hk=>⟨hk.1,⟨hk.2.1,⟨hk.2.2.1,hk.2.2.2.2.1⟩⟩⟩))⟩,⟨nV (Kd.V_mono Zc.out (fun _ hk=>⟨hk.1,⟨hk.2.1,⟨hk.2.2.1,⟨hk.2.2.2.1,hk.2.2.2.2.2.1⟩⟩⟩⟩))⟩,⟨nB Za.out⟩,⟨bB⟩⟩
         rw [if_pos c70] at H
         have c70b0:decide (x100_4 < (t338.length:Int)) = true:=decide_eq_true c70
         clear c70
         by_cases c71:0 ≤ x100_4;rotate_left
         ·rw [if_neg c71] at H
          exact absurd H (by simp)
         rw [if_pos c71] at H
         have c71b0:decide (0 ≤ x100_4) = true:=decide_eq_true c71
         clear c71
         by_cases c72:x100_4 < (t338.length:Int);rotate_left
         ·rw [if_neg c72] at H
          exact absurd H (by simp)
         rw [if_pos c72] at H
         have c72b0:decide (x100_4 < (t338.length:Int)) = true:=decide_eq_true c72
         clear c72
         by_cases c73:((rd_T44 t334 x94_3).f0) = 0
         ·rw [if_pos c73] at H
          have c73b0:(((rd_T44 t334 x94_3).f0) == 0) = true:=beq_iff_eq.mpr c73
          have c73b1:(((rd_T44 t334 x94_3).f0) != 0) = false:=bne_eq_false_iff_eq.mpr c73
          clear c73
          have H':=aQ H
          clear H
          have p368:0 ≤ (x100_4:Int):=of_decide_eq_true (by first | (with_reducible assumption) | assumption)
          have q368:x100_4 < (t338.length:Int):=of_decide_eq_true (by first | (with_reducible assumption) | assumption)
          obtain ⟨Zx,A368_3,c368_3,e368,Wd,We,Wf,Ys,ZS,ZT⟩:=at_T44 (Kd.N_reads' Zr.out).2.2 x100_4 p368 q368
          cases e368
          obtain ⟨WG,Yu,Yv,ZZ⟩:=Kd.N_get Zr.out z44 x100_4 p368 (by first | exact q368 | exact of_decide_eq_true (by first | (with_reducible assumption) | assumption) | (have e_:=(Kd.N_reads' Zr.out).1;omega))
          obtain ⟨Wg,Wh,rfl,ZG,ZH⟩:=k44_openF Yv
          have ZC:=ZZ 3 _ rfl
          rw [add_field _ _ 3 (by omega)] at ZC
          replace ZC:=Option.some.inj (ZC.symm.trans Ys)
          injection ZC with hva_ hvn_ hvc_
          rw [hva_] at ZH
          rw [hvc_] at ZG
          have Zv:=aQ (show Kd.V k29 29 _ w.heap.size _ _ ((rd_T44 t338 x100_4).f1.f2) from Kd.V_mk ZG ZH)
          clear hva_ hvn_ hvc_ ZH ZG
          clear ZZ Yu
          have ZP:=aQ ZT
          have Wi:=aQ ZS
          clear ZT ZS
          replace p368:=eq_true p368
          replace q368:=eq_true q368
          go_wp2_with (first | ((with_reducible refine gate_dst (N:=13) rfl ?_);refine box1 (N:=13) (cs:=#[.int .i64 0,.int .i64 0,.int .i64 0,.slice none 0 0]) (t:=44) ?_;intro Zd hg w74 hbox hb;replace Zk:=aQ (Kd.N_below (Kd.N_elderB (nN Zk.out) Zd (Nat.le_of_eq hg.symm)) hb);replace Zj:=aQ (Kd.N_below (Kd.N_elderB (nN Zj.out) Zd (Nat.le_of_eq hg.symm)) hb);replace Zq:=aQ (Kd.N_below (Kd.N_elderB (nN Zq.out) Zd (Nat.le_of_eq hg.symm)) hb);replace Zr:=aQ (Kd.N_below (Kd.N_elderB (nN Zr.out) Zd (Nat.le_of_eq hg.symm)) hb);replace Zc:=aQ (Kd.V_below (Kd.V_elderB (nV Zc.out) Zd (Nat.le_of_eq hg.symm)) hb);replace Zp:=aQ (Kd.V_below (Kd.V_elderB (nV Zp.out) Zd (Nat.le_of_eq hg.symm)) hb);replace Zv:=aQ (Kd.V_below (Kd.V_elderB (nV Zv.out) Zd (Nat.le_of_eq hg.symm)) hb);replace ZP:=aQ (Kd.C_below (nC ZP.out) hb);have Zm:=aQ (hbox);have Xa:=aQ (gB:w.heap.size ≤ Zd);have WH:=Xa;replace HB:=aQ (below_step bB hb);have ZI:=aQ ((by rw [hg];exact Nat.ne_of_lt (blk_lt (nB Za.out)):Zb ≠ Zd));have Ya:=aQ ZI.out.symm;replace Za:=aQ (blk_below (nB Za.out) hb);have ZJ:=aQ ((by rw [hg];exact Nat.ne_of_lt (blk_lt (nB Zi.out)):Zg ≠ Zd));have Yb:=aQ ZJ.out.symm;replace Zi:=aQ (blk_below (nB Zi.out) hb);clear hb hbox hg;have SH:=Ya.out;have SI:=ZI.out;have SJ:=Yb.out;have SK:=ZJ.out;have Te:w74.cell? ⟨Zd,0,none⟩ = some (.int .i64 0):=(blk_cell Zm.out 0).trans rfl;have Tf:w74.cell? ⟨Zd,1,none⟩ = some (.int .i64 0):=(blk_cell Zm.out 1).trans rfl;have Tg:w74.cell? ⟨Zd,2,none⟩ = some (.int .i64 0):=(blk_cell Zm.out 2).trans rfl;have Th:w74.cell? ⟨Zd,3,none⟩ = some (.slice none 0 0):=(blk_cell Zm.out 3).trans rfl;have Ti:=blk_frozen Zm.out 0;have Tj:=blk_frozen Zm.out 1;have Tk:=blk_frozen Zm.out 2;have Tl:=blk_frozen Zm.out 3;have SL:=Yf.out;have SM:=ZY.out;have Tm:w74.cell? ⟨Zg,0,none⟩ = some (.int .i64 ((rd_T44 t334 x94_3).f0)):=(blk_cell Zi.out 0).trans rfl;have Tn:w74.cell? ⟨Zg,1,none⟩ = some (.int .i64 ((rd_T44 t334 x94_3).f1.f0)):=(blk_cell Zi.out 1).trans rfl;have To:w74.cell? ⟨Zg,2,none⟩ = some (.int .i64 ((rd_T44 t334 x94_3).f1.f1)):=(blk_cell Zi.out 2).trans rfl;have Tp:w74.cell? ⟨Zg,3,none⟩ = some (.slice A366_3 ((rd_T44 t334 x94_3).f1.f2).length c366_3):=(blk_cell Zi.out 3).trans rfl;have Tq:=blk_frozen Zi.out 0;have Tr:=blk_frozen Zi.out 1;have Ts:=blk_frozen Zi.out 2;have Tt:=blk_frozen Zi.out 3))
          go_roundg k4
          case measure=>have:=HK1.out;have:=HK2.out;have:=HK3.out;have:=HK4.out;omega
          case rel=>exact ⟨(x5_4),(wrap64 (x100_4 + 1)),rfl,H',⟨by have:=HK1.out;have:=HK2.out;have:=HK3.out;have:=HK4.out;omega⟩,⟨Kd.N_mono (nFN (g:=Zd) Zk.out (fun k_ hk=>hk.2)) (fun _ hk=>⟨hk.1.1,⟨hk.1.2.1,⟨hk.1.2.2.1,⟨hk.1.2.2.2.1,hk.1.2.2.2.2⟩⟩⟩⟩)⟩,⟨Kd.N_mono (nFN (g:=Zd) Zj.out (fun k_ hk=>hk.2)) (fun _ hk=>⟨hk.1.1,⟨hk.1.2.1,hk.1.2.2⟩⟩)⟩,⟨Kd.N_mono (nFN (g:=Zd) Zq.out (fun k_ hk=>hk.2)) (fun _ hk=>⟨hk.1.1,⟨hk.1.2.1,⟨hk.1.2.2.1,⟨hk.1.2.2.2.1,⟨hk.1.2.2.2.2.1,hk.1.2.2.2.2.2⟩⟩⟩⟩⟩)⟩,⟨Kd.N_mono (nFN (g:=Zd) Zr.out (fun k_ hk=>hk.2)) (fun _ hk=>⟨hk.1.1,⟨hk.1.2.1,⟨hk.1.2.2.1,⟨hk.1.2.2.2.1,hk.1.2.2.2.2⟩⟩⟩⟩)⟩,⟨Kd.V_mono (nFV (g:=Zd) Zc.out (fun k_ hk=>hk.2)) (fun _ hk=>⟨hk.1.1,⟨hk.1.2.1,⟨hk.1.2.2.1,⟨hk.1.2.2.2.1,⟨hk.1.2.2.2.2.1,⟨hk.1.2.2.2.2.2.1,hk.1.2.2.2.2.2.2⟩⟩⟩⟩⟩⟩)⟩,⟨Kd.V_mono (nFV (g:=Zd) Zp.out (fun k_ hk=>hk.2)) (fun _ hk=>⟨hk.1.1,⟨hk.1.2.1,⟨hk.1.2.2.1,⟨hk.1.2.2.2.1,⟨hk.1.2.2.2.2.1,⟨hk.1.2.2.2.2.2.1,hk.1.2.2.2.2.2.2⟩⟩⟩⟩⟩⟩)⟩,⟨bF⟩,⟨bF⟩,⟨bB⟩⟩
         rw [if_neg c73] at H
         have c73b0:(((rd_T44 t334 x94_3).f0) == 0) = false:=beq_eq_false_iff_ne.mpr c73
         have c73b1:(((rd_T44 t334 x94_3).f0) != 0) = true:=bne_iff_ne.mpr c73
         by_cases c80:((rd_T44 t334 x94_3).f0) = (wrap64 (-((rd_T44 t338 x100_4).f0)));rotate_left
         ·rw [if_neg c80] at H
          have c80b0:(((rd_T44 t334 x94_3).f0) == (wrap64 (-((rd_T44 t338 x100_4).f0)))) = false:=beq_eq_false_iff_ne.mpr c80
          have c80b1:(((rd_T44 t334 x94_3).f0) != (wrap64 (-((rd_T44 t338 x100_4).f0)))) = true:=bne_iff_ne.mpr c80
          have H':=aQ H
          clear H
          have p368:0 ≤ (x100_4:Int):=of_decide_eq_true (by first | (with_reducible assumption) | assumption)
          have q368:x100_4 < (t338.length:Int):=of_decide_eq_true (by first | (with_reducible assumption) | assumption)
          obtain ⟨Zx,A368_3,c368_3,e368,Wd,We,Wf,Ys,ZS,ZT⟩:=at_T44 (Kd.N_reads' Zr.out).2.2 x100_4 p368 q368
          cases e368
          obtain ⟨WG,Yu,Yv,ZZ⟩:=Kd.N_get Zr.out z44 x100_4 p368 (by first | exact q368 | exact of_decide_eq_true (by first | (with_reducible assumption) | assumption) | (have e_:=(Kd.N_reads' Zr.out).1;omega))
          obtain ⟨Wg,Wh,rfl,ZG,ZH⟩:=k44_openF Yv
          have ZC:=ZZ 3 _ rfl
          rw [add_field _ _ 3 (by omega)] at ZC
          replace ZC:=Option.some.inj (ZC.symm.trans Ys)
          injection ZC with hva_ hvn_ hvc_
          rw [hva_] at ZH
          rw [hvc_] at ZG
          have Zv:=aQ (show Kd.V k29 29 _ w.heap.size _ _ ((rd_T44 t338 x100_4).f1.f2) from Kd.V_mk ZG ZH)
          clear hva_ hvn_ hvc_ ZH ZG
          clear ZZ Yu
          have ZP:=aQ ZT
          have Wi:=aQ ZS
          clear ZT ZS
          replace p368:=eq_true p368
          replace q368:=eq_true q368
          go_wp2_with (first | ((with_reducible refine gate_dst (N:=13) rfl ?_);refine box1 (N:=13) (cs:=#[.int .i64 0,.int .i64 0,.int .i64 0,.slice none 0 0]) (t:=44) ?_;intro Zd hg w94 hbox hb;replace Zk:=aQ (Kd.N_below (Kd.N_elderB (nN Zk.out) Zd (Nat.le_of_eq hg.symm)) hb);replace Zj:=aQ (Kd.N_below (Kd.N_elderB (nN Zj.out) Zd (Nat.le_of_eq hg.symm)) hb);replace Zq:=aQ (Kd.N_below (Kd.N_elderB (nN Zq.out) Zd (Nat.le_of_eq hg.symm)) hb);replace Zr:=aQ (Kd.N_below (Kd.N_elderB (nN Zr.out) Zd (Nat.le_of_eq hg.symm)) hb);replace Zc:=aQ (Kd.V_below (Kd.V_elderB (nV Zc.out) Zd (Nat.le_of_eq hg.symm)) hb);replace Zp:=aQ (Kd.V_below (Kd.V_elderB (nV Zp.out) Zd (Nat.le_of_eq hg.symm)) hb);replace Zv:=aQ (Kd.V_below (Kd.V_elderB (nV Zv.out) Zd (Nat.le_of_eq hg.symm)) hb);replace ZP:=aQ (Kd.C_below (nC ZP.out) hb);have Zm:=aQ (hbox);have Xa:=aQ (gB:w.heap.size ≤ Zd);have WH:=Xa;replace HB:=aQ (below_step bB hb);have ZI:=aQ ((by rw [hg];exact Nat.ne_of_lt (blk_lt (nB Za.out)):Zb ≠ Zd));have Ya:=aQ ZI.out.symm;replace Za:=aQ (blk_below (nB Za.out) hb);have ZJ:=aQ ((by rw [hg];exact Nat.ne_of_lt (blk_lt (nB Zi.out)):Zg ≠ Zd));have Yb:=aQ ZJ.out.symm;replace Zi:=aQ (blk_below (nB Zi.out) hb);clear hb hbox hg;have SN:=Ya.out;have SO:=ZI.out;have SP:=Yb.out;have SQ:=ZJ.out;have Tu:w94.cell? ⟨Zd,0,none⟩ = some (.int .i64 0):=(blk_cell Zm.out 0).trans rfl;have Tv:w94.cell? ⟨Zd,1,none⟩ = some (.int .i64 0):=(blk_cell Zm.out 1).trans rfl;have Tw:w94.cell? ⟨Zd,2,none⟩ = some (.int .i64 0):=(blk_cell Zm.out 2).trans rfl;have Tx:w94.cell? ⟨Zd,3,none⟩ = some (.slice none 0 0):=(blk_cell Zm.out 3).trans rfl;have Ty:=blk_frozen Zm.out 0;have Tz:=blk_frozen Zm.out 1;have TA:=blk_frozen Zm.out 2;have TB:=blk_frozen Zm.out 3;have SR:=Yf.out;have SS:=ZY.out;have TC:w94.cell? ⟨Zg,0,none⟩ = some (.int .i64 ((rd_T44 t334 x94_3).f0)):=(blk_cell Zi.out 0).trans rfl;have TD:w94.cell? ⟨Zg,1,none⟩ = some (.int .i64 ((rd_T44 t334 x94_3).f1.f0)):=(blk_cell Zi.out 1).trans rfl;have TE:w94.cell? ⟨Zg,2,none⟩ = some (.int .i64 ((rd_T44 t334 x94_3).f1.f1)):=(blk_cell Zi.out 2).trans rfl;have TF:w94.cell? ⟨Zg,3,none⟩ = some (.slice A366_3 ((rd_T44 t334 x94_3).f1.f2).length c366_3):=(blk_cell Zi.out 3).trans rfl;have TG:=blk_frozen Zi.out 0;have TH:=blk_frozen Zi.out 1;have TI:=blk_frozen Zi.out 2;have TJ:=blk_frozen Zi.out 3))
          go_roundg k4
          case measure=>have:=HK1.out;have:=HK2.out;have:=HK3.out;have:=HK4.out;omega
          case rel=>exact ⟨(x5_4),(wrap64 (x100_4 + 1)),rfl,H',⟨by have:=HK1.out;have:=HK2.out;have:=HK3.out;have:=HK4.out;omega⟩,⟨Kd.N_mono (nFN (g:=Zd) Zk.out (fun k_ hk=>hk.2)) (fun _ hk=>⟨hk.1.1,⟨hk.1.2.1,⟨hk.1.2.2.1,⟨hk.1.2.2.2.1,hk.1.2.2.2.2⟩⟩⟩⟩)⟩,⟨Kd.N_mono (nFN (g:=Zd) Zj.out (fun k_ hk=>hk.2)) (fun _ hk=>⟨hk.1.1,⟨hk.1.2.1,hk.1.2.2⟩⟩)⟩,⟨Kd.N_mono (nFN (g:=Zd) Zq.out (fun k_ hk=>hk.2)) (fun _ hk=>⟨hk.1.1,⟨hk.1.2.1,⟨hk.1.2.2.1,⟨hk.1.2.2.2.1,⟨hk.1.2.2.2.2.1,hk.1.2.2.2.2.2⟩⟩⟩⟩⟩)⟩,⟨Kd.N_mono (nFN (g:=Zd) Zr.out (fun k_ hk=>hk.2)) (fun _ hk=>⟨hk.1.1,⟨hk.1.2.1,⟨hk.1.2.2.1,⟨hk.1.2.2.2.1,hk.1.2.2.2.2⟩⟩⟩⟩)⟩,⟨Kd.V_mono (nFV (g:=Zd) Zc.out (fun k_ hk=>hk.2)) (fun _ hk=>⟨hk.1.1,⟨hk.1.2.1,⟨hk.1.2.2.1,⟨hk.1.2.2.2.1,⟨hk.1.2.2.2.2.1,⟨hk.1.2.2.2.2.2.1,hk.1.2.2.2.2.2.2⟩⟩⟩⟩⟩⟩)⟩,⟨Kd.V_mono (nFV (g:=Zd) Zp.out (fun k_ hk=>hk.2)) (fun _ hk=>⟨hk.1.1,⟨hk.1.2.1,⟨hk.1.2.2.1,⟨hk.1.2.2.2.1,⟨hk.1.2.2.2.2.1,⟨hk.1.2.2.2.2.2.1,hk.1.2.2.2.2.2.2⟩⟩⟩⟩⟩⟩)⟩,⟨bF⟩,⟨bF⟩,⟨bB⟩⟩
         rw [if_pos c80] at H
         have c80b0:(((rd_T44 t334 x94_3).f0) == (wrap64 (-((rd_T44 t338 x100_4).f0)))) = true:=beq_iff_eq.mpr c80
         have c80b1:(((rd_T44 t334 x94_3).f0) != (wrap64 (-((rd_T44 t338 x100_4).f0)))) = false:=bne_eq_false_iff_eq.mpr c80
         clear c80
         obtain ⟨⟨t370,t371,t372⟩,A81,H⟩:=bQ H
         dsimp only at H
         by_cases c82:x5_4.length < 2932031007402;rotate_left
         ·rw [if_neg c82] at H
          exact absurd H (by simp)
         rw [if_pos c82] at H
         have LMc82:=aQ c82
         clear c82
         obtain ⟨y375,Wp⟩:∃ y_:List (S44),y_ = (x5_4 ++ [(⟨0,(⟨t370,t371,t372⟩:S29)⟩:S44)]):=⟨_,rfl⟩
         replace H:(impl_ticksOf.l3 k4 t338 y375 t334 (t334.length:Int) x94_3 t338 (t338.length:Int) (wrap64 (x100_4 + 1)) ((rd_T44 t334 x94_3).f0) ((rd_T44 t334 x94_3).f1.f0) ((rd_T44 t334 x94_3).f1.f1) ((rd_T44 t334 x94_3).f1.f2)) = some r:=by rw [Wp];exact H
         have VN:=aQ Wp
         clear Wp
         have H':=aQ H
         clear H
         have p368:0 ≤ (x100_4:Int):=of_decide_eq_true (by first | (with_reducible assumption) | assumption)
         have q368:x100_4 < (t338.length:Int):=of_decide_eq_true (by first | (with_reducible assumption) | assumption)
         obtain ⟨Zx,A368_3,c368_3,e368,Wd,We,Wf,Ys,ZS,ZT⟩:=at_T44 (Kd.N_reads' Zr.out).2.2 x100_4 p368 q368
         cases e368
         obtain ⟨WG,Yu,Yv,ZZ⟩:=Kd.N_get Zr.out z44 x100_4 p368 (by first | exact q368 | exact of_decide_eq_true (by first | (with_reducible assumption) | assumption) | (have e_:=(Kd.N_reads' Zr.out).1;omega))
         obtain ⟨Wg,Wh,rfl,ZG,ZH⟩:=k44_openF Yv
         have ZC:=ZZ 3 _ rfl
         rw [add_field _ _ 3 (by omega)] at ZC
         replace ZC:=Option.some.inj (ZC.symm.trans Ys)
         injection ZC with hva_ hvn_ hvc_
         rw [hva_] at ZH
         rw [hvc_] at ZG
         have Zv:=aQ (show Kd.V k29 29 _ w.heap.size _ _ ((rd_T44 t338 x100_4).f1.f2) from Kd.V_mk ZG ZH)
         clear hva_ hvn_ hvc_ ZH ZG
         clear ZZ Yu
         have ZP:=aQ ZT
         have Wi:=aQ ZS
         clear ZT ZS
         replace p368:=eq_true p368
         replace q368:=eq_true q368
         go_wp2_with (first | ((with_reducible refine gate_dst (N:=13) rfl ?_);refine box1 (N:=13) (cs:=#[.int .i64 0,.int .i64 0,.int .i64 0,.slice none 0 0]) (t:=44) ?_;intro Zd hg w83 hbox hb;replace Zk:=aQ (Kd.N_below (Kd.N_elderB (nN Zk.out) Zd (Nat.le_of_eq hg.symm)) hb);replace Zj:=aQ (Kd.N_below (Kd.N_elderB (nN Zj.out) Zd (Nat.le_of_eq hg.symm)) hb);replace Zq:=aQ (Kd.N_below (Kd.N_elderB (nN Zq.out) Zd (Nat.le_of_eq hg.symm)) hb);replace Zr:=aQ (Kd.N_below (Kd.N_elderB (nN Zr.out) Zd (Nat.le_of_eq hg.symm)) hb);replace Zc:=aQ (Kd.V_below (Kd.V_elderB (nV Zc.out) Zd (Nat.le_of_eq hg.symm)) hb);replace Zp:=aQ (Kd.V_below (Kd.V_elderB (nV Zp.out) Zd (Nat.le_of_eq hg.symm)) hb);replace Zv:=aQ (Kd.V_below (Kd.V_elderB (nV Zv.out) Zd (Nat.le_of_eq hg.symm)) hb);replace ZP:=aQ (Kd.C_below (nC ZP.out) hb);have Zm:=aQ (hbox);have Xa:=aQ (gB:w.heap.size ≤ Zd);have WH:=Xa;replace HB:=aQ (below_step bB hb);have ZI:=aQ ((by rw [hg];exact Nat.ne_of_lt (blk_lt (nB Za.out)):Zb ≠ Zd));have Ya:=aQ ZI.out.symm;replace Za:=aQ (blk_below (nB Za.out) hb);have ZJ:=aQ ((by rw [hg];exact Nat.ne_of_lt (blk_lt (nB Zi.out)):Zg ≠ Zd));have Yb:=aQ ZJ.out.symm;replace Zi:=aQ (blk_below (nB Zi.out) hb);clear hb hbox hg;have ST:=Ya.out;have SU:=ZI.out;have SV:=Yb.out;have SW:=ZJ.out;have TK:w83.cell? ⟨Zd,0,none⟩ = some (.int .i64 0):=(blk_cell Zm.out 0).trans rfl;have TL:w83.cell? ⟨Zd,1,none⟩ = some (.int .i64 0):=(blk_cell Zm.out 1).trans rfl;have TM:w83.cell? ⟨Zd,2,none⟩ = some (.int .i64 0):=(blk_cell Zm.out 2).trans rfl;have TN:w83.cell? ⟨Zd,3,none⟩ = some (.slice none 0 0):=(blk_cell Zm.out 3).trans rfl;have TO:=blk_frozen Zm.out 0;have TP:=blk_frozen Zm.out 1;have TQ:=blk_frozen Zm.out 2;have TR:=blk_frozen Zm.out 3) | ((with_reducible refine gate_store (t:=44) (p:=13) rfl ?_);refine store_event (t:=44) (p:=13) (v:=?vo_w87) (w1:=((((w83.setCell ⟨Zd,0,none⟩ (.int .i64 ((rd_T44 t338 x100_4).f0))).setCell ⟨Zd,1,none⟩ (.int .i64 ((rd_T44 t338 x100_4).f1.f0))).setCell ⟨Zd,2,none⟩ (.int .i64 ((rd_T44 t338 x100_4).f1.f1))).setCell ⟨Zd,3,none⟩ (.slice A368_3 ((rd_T44 t338 x100_4).f1.f2).length c368_3))) ?hg ?ho ?hn ?hr ?_;(case ho=>rfl);(case hg=>rfl);(case hn=>rfl);(case hr=>first | (go_simp;done) | (go_simp;rfl));intro w87 hw;have n0_:Aside0 (Kd.N k44 44 w87 w.heap.size (fun k_=>(P0_2_ k_ ∨ w.heap.size ≤ k_)∧some k_ ≠ (u5:Value).ownBlock∧some k_ ≠ (.slice (some ZE) t334.length Zh:Value).ownBlock∧k_ ≠ Zb∧k_ ≠ Zg∧k_ ≠ Zd) (.slice (some Zx) t338.length Zn) t338):=⟨(by rw [hw];exact (Kd.N_mono (nFN (g:=Zd) Zk.out (fun k_ hk=>hk.2)) (fun _ hk=>⟨hk.1.1,⟨hk.1.2.1,⟨hk.1.2.2.1,⟨hk.1.2.2.2.1,⟨hk.1.2.2.2.2,hk.2⟩⟩⟩⟩⟩)))⟩;have n1_:Aside0 (Kd.N k44 44 w87 w.heap.size (fun k_=>(P0_2_ k_ ∨ w.heap.size ≤ k_)∧k_ ≠ Zb∧k_ ≠ Zg∧k_ ≠ Zd) u5 x5_4):=⟨(by rw [hw];exact (Kd.N_mono (nFN (g:=Zd) Zj.out (fun k_ hk=>hk.2)) (fun _ hk=>⟨hk.1.1,⟨hk.1.2.1,⟨hk.1.2.2,hk.2⟩⟩⟩)))⟩;have n2_:Aside0 (Kd.N k44 44 w87 w.heap.size (fun k_=>(P0_2_ k_ ∨ w.heap.size ≤ k_)∧some k_ ≠ (.slice (some Zx) t338.length Zn:Value).ownBlock∧some k_ ≠ (u5:Value).ownBlock∧some k_ ≠ (.slice (some Zx) t338.length Zn:Value).ownBlock∧k_ ≠ Zb∧k_ ≠ Zg∧k_ ≠ Zd) (.slice (some ZE) t334.length Zh) t334):=⟨(by rw [hw];exact (Kd.N_mono (nFN (g:=Zd) Zq.out (fun k_ hk=>hk.2)) (fun _ hk=>⟨hk.1.1,⟨hk.1.2.1,⟨hk.1.2.2.1,⟨hk.1.2.2.2.1,⟨hk.1.2.2.2.2.1,⟨hk.1.2.2.2.2.2,hk.2⟩⟩⟩⟩⟩⟩)))⟩;have n3_:Aside0 (Kd.N k44 44 w87 w.heap.size (fun k_=>(P0_2_ k_ ∨ w.heap.size ≤ k_)∧some k_ ≠ (u5:Value).ownBlock∧some k_ ≠ (.slice (some ZE) t334.length Zh:Value).ownBlock∧k_ ≠ Zb∧k_ ≠ Zg∧k_ ≠ Zd) (.slice (some Zx) t338.length Zn) t338):=⟨(by rw [hw];exact (Kd.N_mono (nFN (g:=Zd) Zr.out (fun k_ hk=>hk.2)) (fun _ hk=>⟨hk.1.1,⟨hk.1.2.1,⟨hk.1.2.2.1,⟨hk.1.2.2.2.1,⟨hk.1.2.2.2.2,hk.2⟩⟩⟩⟩⟩)))⟩;have n4_:Aside0 (Kd.V k29 29 w87 w.heap.size (fun k_=>(P0_2_ k_ ∨ w.heap.size ≤ k_)∧some k_ ≠ (.slice (some Zx) t338.length Zn:Value).ownBlock∧some k_ ≠ (u5:Value).ownBlock∧some k_ ≠ (.slice (some ZE) t334.length Zh:Value).ownBlock∧some k_ ≠ (.slice (some Zx) t338.length Zn:Value).ownBlock∧k_ ≠ Zb∧k_ ≠ Zg∧k_ ≠ Zd) (.slice (some Zo) l0_2.length c0_2) l0_2):=⟨(by rw [hw];exact (Kd.V_mono (nFV (g:=Zd) Zc.out (fun k_ hk=>hk.2)) (fun _ hk=>⟨hk.1.1,⟨hk.1.2.1,⟨hk.1.2.2.1,⟨hk.1.2.2.2.1,⟨hk.1.2.2.2.2.1,⟨hk.1.2.2.2.2.2.1,⟨hk.1.2.2.2.2.2.2,hk.2⟩⟩⟩⟩⟩⟩⟩)))⟩;have n5_:Aside0 (Kd.V k29 29 w87 w.heap.size (fun k_=>(P0_2_ k_ ∨ w.heap.size ≤ k_)∧some k_ ≠ (.slice (some Zx) t338.length Zn:Value).ownBlock∧some k_ ≠ (u5:Value).ownBlock∧some k_ ≠ (.slice (some ZE) t334.length Zh:Value).ownBlock∧some k_ ≠ (.slice (some Zx) t338.length Zn:Value).ownBlock∧k_ ≠ Zb∧k_ ≠ Zg∧k_ ≠ Zd) (.slice A366_3 ((rd_T44 t334 x94_3).f1.f2).length c366_3) ((rd_T44 t334 x94_3).f1.f2)):=⟨(by rw [hw];exact (Kd.V_mono (nFV (g:=Zd) Zp.out (fun k_ hk=>hk.2)) (fun _ hk=>⟨hk.1.1,⟨hk.1.2.1,⟨hk.1.2.2.1,⟨hk.1.2.2.2.1,⟨hk.1.2.2.2.2.1,⟨hk.1.2.2.2.2.2.1,⟨hk.1.2.2.2.2.2.2,hk.2⟩⟩⟩⟩⟩⟩⟩)))⟩;have n6_:Aside0 (Kd.V k29 29 w87 w.heap.size (fun k_=>(P0_2_ k_ ∨ w.heap.size ≤ k_)∧some k_ ≠ (u5:Value).ownBlock∧some k_ ≠ (.slice (some ZE) t334.length Zh:Value).ownBlock∧some k_ ≠ (.slice (some Zx) t338.length Zn:Value).ownBlock∧k_ ≠ Zb∧k_ ≠ Zg∧k_ ≠ Zd) (.slice A368_3 ((rd_T44 t338 x100_4).f1.f2).length c368_3) ((rd_T44 t338 x100_4).f1.f2)):=⟨(by rw [hw];exact (Kd.V_mono (nFV (g:=Zd) Zv.out (fun k_ hk=>hk.2)) (fun _ hk=>⟨hk.1.1.1,⟨hk.1.1.2.1,⟨hk.1.1.2.2.1,⟨hk.1.2,⟨hk.1.1.2.2.2.1,⟨hk.1.1.2.2.2.2,hk.2⟩⟩⟩⟩⟩⟩)))⟩;have n7_:Aside0 (w87.heap[Zb]? = some (.cells #[.int .i64 a0_0,.int .i64 a0_1,.slice (some Zo) l0_2.length c0_2] 29 (0,0))):=⟨(by rw [hw];exact bF)⟩;have n8_:Aside0 (w87.heap[Zg]? = some (.cells #[.int .i64 ((rd_T44 t334 x94_3).f0),.int .i64 ((rd_T44 t334 x94_3).f1.f0),.int .i64 ((rd_T44 t334 x94_3).f1.f1),.slice A366_3 ((rd_T44 t334 x94_3).f1.f2).length c366_3] 44 (0,0))):=⟨(by rw [hw];exact bF)⟩;have n9_:Aside0 (w87.heap[Zd]? = some (.cells #[.int .i64 ((rd_T44 t338 x100_4).f0),.int .i64 ((rd_T44 t338 x100_4).f1.f0),.int .i64 ((rd_T44 t338 x100_4).f1.f1),.slice A368_3 ((rd_T44 t338 x100_4).f1.f2).length c368_3] 44 (0,0))):=⟨(by rw [hw];exact bP)⟩;have n10_:Aside0 (Below w.heap.size w w87):=⟨(by rw [hw];exact bB)⟩;clear hw;clear Zk;clear Zj;clear Zq;clear Zr;clear Zc;clear Zp;clear Zv;clear Za;clear Zi;clear Zm;clear HB;have Zk:=n0_;have Zj:=n1_;have Zq:=n2_;have Zr:=n3_;have Zc:=n4_;have Zp:=n5_;have Zv:=n6_;have Za:=n7_;have Zi:=n8_;have Zm:=n9_;have HB:=n10_;clear n0_ n1_ n2_ n3_ n4_ n5_ n6_ n7_ n8_ n9_ n10_;have SX:=Yf.out;have SY:=ZY.out;have TS:w87.cell? ⟨Zg,0,none⟩ = some (.int .i64 ((rd_T44 t334 x94_3).f0)):=(blk_cell Zi.out 0).trans rfl;have TT:w87.cell? ⟨Zg,1,none⟩ = some (.int .i64 ((rd_T44 t334 x94_3).f1.f0)):=(blk_cell Zi.out 1).trans rfl;have TU:w87.cell? ⟨Zg,2,none⟩ = some (.int .i64 ((rd_T44 t334 x94_3).f1.f1)):=(blk_cell Zi.out 2).trans rfl;have TV:w87.cell? ⟨Zg,3,none⟩ = some (.slice A366_3 ((rd_T44 t334 x94_3).f1.f2).length c366_3):=(blk_cell Zi.out 3).trans rfl;have TW:=blk_frozen Zi.out 0;have TX:=blk_frozen Zi.out 1;have TY:=blk_frozen Zi.out 2;have TZ:=blk_frozen Zi.out 3;have Sa:w87.cell? ⟨Zd,0,none⟩ = some (.int .i64 ((rd_T44 t338 x100_4).f0)):=(blk_cell Zm.out 0).trans rfl;have Sb:w87.cell? ⟨Zd,1,none⟩ = some (.int .i64 ((rd_T44 t338 x100_4).f1.f0)):=(blk_cell Zm.out 1).trans rfl;have Sc:w87.cell? ⟨Zd,2,none⟩ = some (.int .i64 ((rd_T44 t338 x100_4).f1.f1)):=(blk_cell Zm.out 2).trans rfl;have Sd:w87.cell? ⟨Zd,3,none⟩ = some (.slice A368_3 ((rd_T44 t338 x100_4).f1.f2).length c368_3):=(blk_cell Zm.out 3).trans rfl;have Se:=blk_frozen Zm.out 0;have Sf:=blk_frozen Zm.out 1;have Sg:=blk_frozen Zm.out 2;have Sh:=blk_frozen Zm.out 3) | ((with_reducible refine gate_callee (f:=62) rfl ?_);refine goesL_ (some 120) rfl rfl Try.func62 (by kernel_rfl) rfl #[.agg #[.int .i64 ((rd_T44 t334 x94_3).f1.f0),.int .i64 ((rd_T44 t334 x94_3).f1.f1),.slice A366_3 ((rd_T44 t334 x94_3).f1.f2).length c366_3],.agg #[.int .i64 ((rd_T44 t338 x100_4).f1.f0),.int .i64 ((rd_T44 t338 x100_4).f1.f1),.slice A368_3 ((rd_T44 t338 x100_4).f1.f2).length c368_3]] rfl mP ?_;(with_reducible refine (impl_beside.calls ((rd_T44 t334 x94_3).f1.f0) ((rd_T44 t334 x94_3).f1.f1) (fun k_=>((P0_2_ k_ ∨ w.heap.size ≤ k_)∧(some k_ ≠ (.slice (some Zx) t338.length Zn:Value).ownBlock∧(some k_ ≠ (u5:Value).ownBlock∧(some k_ ≠ (.slice (some ZE) t334.length Zh:Value).ownBlock∧(some k_ ≠ (.slice (some Zx) t338.length Zn:Value).ownBlock∧(k_ ≠ Zb∧(k_ ≠ Zg∧k_ ≠ Zd)))))))) _ _ ((rd_T44 t334 x94_3).f1.f2) ((rd_T44 t338 x100_4).f1.f0) ((rd_T44 t338 x100_4).f1.f1) (fun k_=>((P0_2_ k_ ∨ w.heap.size ≤ k_)∧(some k_ ≠ (u5:Value).ownBlock∧(some k_ ≠ (.slice (some ZE) t334.length Zh:Value).ownBlock∧(some k_ ≠ (.slice (some Zx) t338.length Zn:Value).ownBlock∧(k_ ≠ Zb∧(k_ ≠ Zg∧k_ ≠ Zd))))))) _ _ ((rd_T44 t338 x100_4).f1.f2) t370 t371 t372 _ ?ZO ?YZ A81.out).mono ?_);(case ZO=>exact Zp.out);(case YZ=>exact Zv.out);rintro e w91 ⟨v373,rfl,ho0,hb⟩;refine ⟨_,rfl,?_⟩;have n0_:=aQ (Kd.N_elder' (nN Zk.out) (Kd.N_base ho0) hb);have n1_:=aQ (Kd.N_elder' (nN Zj.out) (Kd.N_base ho0) hb);have n2_:=aQ (Kd.N_elder' (nN Zq.out) (Kd.N_base ho0) hb);have n3_:=aQ (Kd.N_elder' (nN Zr.out) (Kd.N_base ho0) hb);have n4_:=aQ (Kd.V_elder' (nV Zc.out) (Kd.N_base ho0) hb);have n5_:=aQ (Kd.V_elder' (nV Zp.out) (Kd.N_base ho0) hb);have n6_:=aQ (Kd.V_elder' (nV Zv.out) (Kd.N_base ho0) hb);have n7_:=aQ (Kd.N_lower (Kd.N_mono (ok':=fun k_=>(P0_2_ k_ ∨ w.heap.size ≤ k_)∧some k_ ≠ (u5:Value).ownBlock∧some k_ ≠ (.slice (some ZE) t334.length Zh:Value).ownBlock∧some k_ ≠ (.slice (some Zx) t338.length Zn:Value).ownBlock∧k_ ≠ Zb∧k_ ≠ Zg∧k_ ≠ Zd) ho0 (fun k_ hk_=>⟨Or.elim hk_ (fun hs_=>Or.elim hs_ (fun hs_=>hs_.1) (fun hs_=>hs_.1)) (fun hn_=>(.inr (Nat.le_trans (below_size bB) hn_))),Or.elim hk_ (fun hs_=>Or.elim hs_ (fun hs_=>hs_.2.2.1) (fun hs_=>hs_.2.1)) (fun hn_=>(Kd.fresh' (Kd.N_lt (nN Zj.out)) k_ hn_)),Or.elim hk_ (fun hs_=>Or.elim hs_ (fun hs_=>hs_.2.2.2.1) (fun hs_=>hs_.2.2.1)) (fun hn_=>(Kd.fresh' (Kd.N_lt (nN Zq.out)) k_ hn_)),Or.elim hk_ (fun hs_=>Or.elim hs_ (fun hs_=>hs_.2.2.2.2.1) (fun hs_=>hs_.2.2.2.1)) (fun hn_=>(Kd.fresh' (Kd.N_lt (nN Zr.out)) k_ hn_)),Or.elim hk_ (fun hs_=>Or.elim hs_ (fun hs_=>hs_.2.2.2.2.2.1) (fun hs_=>hs_.2.2.2.2.1)) (fun hn_=>(Kd.freshB (nB Za.out) k_ hn_)),Or.elim hk_ (fun hs_=>Or.elim hs_ (fun hs_=>hs_.2.2.2.2.2.2.1) (fun hs_=>hs_.2.2.2.2.2.1)) (fun hn_=>(Kd.freshB (nB Zi.out) k_ hn_)),Or.elim hk_ (fun hs_=>Or.elim hs_ (fun hs_=>hs_.2.2.2.2.2.2.2) (fun hs_=>hs_.2.2.2.2.2.2)) (fun hn_=>(Kd.freshB (nB Zm.out) k_ hn_))⟩)) (below_size bB));have n8_:=aQ (blk_below (nB Za.out) hb);have n9_:=aQ (blk_below (nB Zi.out) hb);have n11_:=aQ (blk_below (nB Zm.out) hb);have n12_:=aQ (below_step bB hb);clear Zk;clear Zj;clear Zq;clear Zr;clear Zc;clear Zp;clear Zv;clear Za;clear Zi;(try clear ZP);clear Zm;clear HB;have Zk:=n0_;have Zj:=n1_;have Zq:=n2_;have Zr:=n3_;have Zc:=n4_;have Zp:=n5_;have Zv:=n6_;have XE:=n7_;have Za:=n8_;have Zi:=n9_;have Zm:=n11_;have HB:=n12_;clear n0_ n1_ n2_ n3_ n4_ n5_ n6_ n7_ n8_ n9_ n11_ n12_;(try clear hb);(try clear ho0);obtain ⟨YW,YX,VX⟩:=Kd.N_slice XE.out;subst VX) | ((with_reducible refine gate_builtin (b:=.append) (xs:=#[.tmp 115,.tmp 122]) rfl ?_);at_builtin;refine Kd.N_append k44 (w0:=w) w.heap.size rfl (.tmp 115) (.tmp 122) 35 44 (.agg #[(.int .i64 0),(.int .i64 0),(.int .i64 0),(.slice none 0 0)]) 48 rfl Try.underlying35 info44 rfl (by decide) (by omega) u5 x5_4 (⟨0,(⟨t370,t371,t372⟩:S29)⟩:S44) [.int .i64 0,.int .i64 t370,.int .i64 t371,.slice YW t372.length YX] (fun k_=>(P0_2_ k_ ∨ w.heap.size ≤ k_)∧k_ ≠ Zb∧k_ ≠ Zg∧k_ ≠ Zd) (fun k_=>((fun k_=>(P0_2_ k_ ∨ w.heap.size ≤ k_)∧k_ ≠ Zb∧k_ ≠ Zg∧k_ ≠ Zd)) k_∧some k_ ≠ (u5:Value).ownBlock) rfl rfl ?aP (fun _ hk=>hk) ?aF ?aO ?aB ?aS ?aL ?_;(case aP=>exact (k44_mkF _ _ (⟨0,(⟨t370,t371,t372⟩:S29)⟩:S44) (Kd.N_reads' (Kd.N_mono (ok':=(fun k_=>((fun k_=>(P0_2_ k_ ∨ w.heap.size ≤ k_)∧k_ ≠ Zb∧k_ ≠ Zg∧k_ ≠ Zd)) k_∧some k_ ≠ (u5:Value).ownBlock)) (XE.out) (fun k_ hk=>⟨⟨hk.1,⟨hk.2.2.2.2.1,⟨hk.2.2.2.2.2.1,hk.2.2.2.2.2.2⟩⟩⟩,hk.2.1⟩))).2.1 (Kd.N_F (Kd.N_mono (ok':=(fun k_=>((fun k_=>(P0_2_ k_ ∨ w.heap.size ≤ k_)∧k_ ≠ Zb∧k_ ≠ Zg∧k_ ≠ Zd)) k_∧some k_ ≠ (u5:Value).ownBlock)) (XE.out) (fun k_ hk=>⟨⟨hk.1,⟨hk.2.2.2.2.1,⟨hk.2.2.2.2.2.1,hk.2.2.2.2.2.2⟩⟩⟩,hk.2.1⟩)))));(case aB=>exact bB);(case aF=>exact (fun k_ hk=>⟨(.inr (Nat.le_trans (below_size bB) hk)),Kd.freshB (nB Za.out) k_ hk,Kd.freshB (nB Zi.out) k_ hk,Kd.freshB (nB Zm.out) k_ hk⟩));(case aO=>exact (nN (Kd.N_mono Zj.out (fun _ hk=>⟨hk.1.1,⟨hk.1.2.1,⟨hk.1.2.2.1,hk.1.2.2.2⟩⟩⟩))));(case aS=>exact (below_size bB));(case aL=>have:=LMc82.out;omega);intro v376 w93 ho hb hg hat;rw [← VN.out] at ho;have n0_:=aQ (Kd.N_afterv (ok:=(fun k_=>(P0_2_ k_ ∨ w.heap.size ≤ k_)∧some k_ ≠ (.slice (some ZE) t334.length Zh:Value).ownBlock∧some k_ ≠ (.slice YW t372.length YX:Value).ownBlock∧k_ ≠ Zb∧k_ ≠ Zg∧k_ ≠ Zd)) (nN (Kd.N_mono Zk.out (fun _ hk=>⟨⟨hk.1.1,⟨hk.1.2.2.1,⟨hk.2,⟨hk.1.2.2.2.1,⟨hk.1.2.2.2.2.1,hk.1.2.2.2.2.2⟩⟩⟩⟩⟩,hk.1.2.1⟩))) hg hat);have n1_:=aQ (Kd.N_afterv (ok:=(fun k_=>(P0_2_ k_ ∨ w.heap.size ≤ k_)∧some k_ ≠ (.slice (some Zx) t338.length Zn:Value).ownBlock∧some k_ ≠ (.slice (some Zx) t338.length Zn:Value).ownBlock∧some k_ ≠ (.slice YW t372.length YX:Value).ownBlock∧k_ ≠ Zb∧k_ ≠ Zg∧k_ ≠ Zd)) (nN (Kd.N_mono Zq.out (fun _ hk=>⟨⟨hk.1.1,⟨hk.1.2.1,⟨hk.1.2.2.2.1,⟨hk.2,⟨hk.1.2.2.2.2.1,⟨hk.1.2.2.2.2.2.1,hk.1.2.2.2.2.2.2⟩⟩⟩⟩⟩⟩,hk.1.2.2.1⟩))) hg hat);have n2_:=aQ (Kd.N_afterv (ok:=(fun k_=>(P0_2_ k_ ∨ w.heap.size ≤ k_)∧some k_ ≠ (.slice (some ZE) t334.length Zh:Value).ownBlock∧some k_ ≠ (.slice YW t372.length YX:Value).ownBlock∧k_ ≠ Zb∧k_ ≠ Zg∧k_ ≠ Zd)) (nN (Kd.N_mono Zr.out (fun _ hk=>⟨⟨hk.1.1,⟨hk.1.2.2.1,⟨hk.2,⟨hk.1.2.2.2.1,⟨hk.1.2.2.2.2.1,hk.1.2.2.2.2.2⟩⟩⟩⟩⟩,hk.1.2.1⟩))) hg hat);have n3_:=aQ (Kd.V_afterv (ok:=(fun k_=>(P0_2_ k_ ∨ w.heap.size ≤ k_)∧some k_ ≠ (.slice (some Zx) t338.length Zn:Value).ownBlock∧some k_ ≠ (.slice (some ZE) t334.length Zh:Value).ownBlock∧some k_ ≠ (.slice (some Zx) t338.length Zn:Value).ownBlock∧some k_ ≠ (.slice YW t372.length YX:Value).ownBlock∧k_ ≠ Zb∧k_ ≠ Zg∧k_ ≠ Zd)) (nV (Kd.V_mono Zc.out (fun _ hk=>⟨⟨hk.1.1,⟨hk.1.2.1,⟨hk.1.2.2.2.1,⟨hk.1.2.2.2.2.1,⟨hk.2,⟨hk.1.2.2.2.2.2.1,⟨hk.1.2.2.2.2.2.2.1,hk.1.2.2.2.2.2.2.2⟩⟩⟩⟩⟩⟩⟩,hk.1.2.2.1⟩))) hg hat);have n4_:=aQ (Kd.V_afterv (ok:=(fun k_=>(P0_2_ k_ ∨ w.heap.size ≤ k_)∧some k_ ≠ (.slice (some Zx) t338.length Zn:Value).ownBlock∧some k_ ≠ (.slice (some ZE) t334.length Zh:Value).ownBlock∧some k_ ≠ (.slice (some Zx) t338.length Zn:Value).ownBlock∧some k_ ≠ (.slice YW t372.length YX:Value).ownBlock∧k_ ≠ Zb∧k_ ≠ Zg∧k_ ≠ Zd)) (nV (Kd.V_mono Zp.out (fun _ hk=>⟨⟨hk.1.1,⟨hk.1.2.1,⟨hk.1.2.2.2.1,⟨hk.1.2.2.2.2.1,⟨hk.2,⟨hk.1.2.2.2.2.2.1,⟨hk.1.2.2.2.2.2.2.1,hk.1.2.2.2.2.2.2.2⟩⟩⟩⟩⟩⟩⟩,hk.1.2.2.1⟩))) hg hat);have n5_:=aQ (blk_grown (nB Za.out) hg (Kd.N_ne Zj.out Za.out (by decide)));have n6_:=aQ (blk_grown (nB Zi.out) hg (Kd.N_away Zj.out (fun _ hk=>hk.1.2.2.1)));have n7_:=aQ (Kd.V_afterv (ok:=(fun k_=>(P0_2_ k_ ∨ w.heap.size ≤ k_)∧some k_ ≠ (.slice (some ZE) t334.length Zh:Value).ownBlock∧some k_ ≠ (.slice (some Zx) t338.length Zn:Value).ownBlock∧some k_ ≠ (.slice YW t372.length YX:Value).ownBlock∧k_ ≠ Zb∧k_ ≠ Zg∧k_ ≠ Zd)) (nV (Kd.V_mono Zv.out (fun _ hk=>⟨⟨hk.1.1,⟨hk.1.2.2.1,⟨hk.1.2.2.2.1,⟨hk.2,⟨hk.1.2.2.2.2.1,⟨hk.1.2.2.2.2.2.1,hk.1.2.2.2.2.2.2⟩⟩⟩⟩⟩⟩,hk.1.2.1⟩))) hg hat);have n8_:=aQ (blk_grown (nB Zm.out) hg (Kd.N_away Zj.out (fun _ hk=>hk.1.2.2.2)));have n9_:=aQ (hb);have n10_:=aQ (ho);clear Zk;clear Zq;clear Zr;clear Zc;clear Zp;clear Za;clear Zi;clear Zv;clear Zm;clear HB;clear Zj;clear XE;have Zk:=n0_;have Zq:=n1_;have Zr:=n2_;have Zc:=n3_;have Zp:=n4_;have Za:=n5_;have Zi:=n6_;have Zv:=n7_;have Zm:=n8_;have HB:=n9_;have VO:=n10_;clear n0_ n1_ n2_ n3_ n4_ n5_ n6_ n7_ n8_ n9_ n10_;clear ho hb hg hat))
         go_roundg k4
         case measure=>have:=HK1.out;have:=HK2.out;have:=HK3.out;have:=HK4.out;omega
         case rel=>exact ⟨(y375),(wrap64 (x100_4 + 1)),rfl,H',⟨by have:=HK1.out;have:=HK2.out;have:=HK3.out;have:=HK4.out;omega⟩,⟨nN (Kd.N_mono Zk.out (fun _ hk=>⟨hk.1.1,⟨hk.2,⟨hk.1.2.1,⟨hk.1.2.2.2.1,hk.1.2.2.2.2.1⟩⟩⟩⟩))⟩,⟨nN (Kd.N_mono VO.out (fun _ hk=>⟨hk.1,⟨hk.2.1,hk.2.2.1⟩⟩))⟩,⟨nN (Kd.N_mono Zq.out (fun _ hk=>⟨hk.1.1,⟨hk.1.2.1,⟨hk.2,⟨hk.1.2.2.1,⟨hk.1.2.2.2.2.1,hk.1.2.2.2.2.2.1⟩⟩⟩⟩⟩))⟩,⟨nN (Kd.N_mono Zr.out (fun _ hk=>⟨hk.1.1,⟨hk.2,⟨hk.1.2.1,⟨hk.1.2.2.2.1,hk.1.2.2.2.2.1⟩⟩⟩⟩))⟩,⟨nV (Kd.V_mono Zc.out (fun _ hk=>⟨hk.1.1,⟨hk.1.2.1,⟨hk.2,⟨hk.1.2.2.1,⟨hk.1.2.2.2.1,⟨hk.1.2.2.2.2.2.1,hk.1.2.2.2.2.2.2.1⟩⟩⟩⟩⟩⟩))⟩,⟨nV (Kd.V_mono Zp.out (fun _ hk=>⟨hk.1.1,⟨hk.1.2.1,⟨hk.2,⟨hk.1.2.2.1,⟨hk.1.2.2.2.1,⟨hk.1.2.2.2.2.2.1,hk.1.2.2.2.2.2.2.1⟩⟩⟩⟩⟩⟩))⟩,⟨nB Za.out⟩,⟨nB Zi.out⟩,⟨bB⟩⟩
mutual
def impl_copyClock.l0:Nat → List (S29) → Int → Int → Int → Int → List (S29) → Option (Int × Int × (List (S29)))
 | 0,_,_,_,_,_,_=>none
 | k + 1,x12,x13,x14,x381000,x381001,x381002=>if x14 < x13 then (if 0 ≤ x14 then (if x14 < (x12.length:Int) then ((impl_copyClock.f k ((rd_T29 x12 x14).f0) ((rd_T29 x12 x14).f1) ((rd_T29 x12 x14).f2)).bind fun bt383=>(if x381002.length < 3518437208883 then (impl_copyClock.l0 k x12 x13 (wrap64 (x14 + 1)) x381000 x381001 (x381002 ++ [(⟨bt383.1,bt383.2.1,bt383.2.2⟩:S29)])) else (none))) else (none)) else (none)) else (some (x381000,x381001,x381002))
def impl_copyClock.f:Nat → Int → Int → List (S29) → Option (Int × Int × (List (S29)))
 | 0,_,_,_=>none
 | k + 1,a0_0,a0_1,l0_2=>impl_copyClock.l0 k l0_2 (l0_2.length:Int) 0 a0_0 a0_1 ([]:List (S29))
end
theorem impl_copyClock.mono_l:∀ k,(∀ y0 y1 y2,LeO (impl_copyClock.f k y0 y1 y2) (impl_copyClock.f (k + 1) y0 y1 y2))∧(∀ y0 y1 y2 y3 y4 y5,LeO (impl_copyClock.l0 k y0 y1 y2 y3 y4 y5) (impl_copyClock.l0 (k + 1) y0 y1 y2 y3 y4 y5))
 | 0=>⟨fun _ _ _ r h=>by simp [impl_copyClock.f] at h,fun _ _ _ _ _ _ r h=>by simp [impl_copyClock.l0] at h⟩
 | k + 1=>by
  obtain ⟨ih0,ih1⟩:=impl_copyClock.mono_l k
  refine ⟨?_,?_⟩
  ·intro y0 y1 y2
   unfold impl_copyClock.f
   repeat' first
   | (with_reducible exact ih0 _ _ _)
   | (with_reducible exact ih1 _ _ _ _ _ _)
   | (with_reducible exact LeO.refl _)
   | (with_reducible exact LeO.none _)
   | (with_reducible refine LeO.ite ?_ ?_)
   | (with_reducible refine LeO.bind ?_ (fun _=>?_))
   | exact ih0 _ _ _
   | exact ih1 _ _ _ _ _ _
   | exact LeO.none _
   | refine LeO.ite ?_ ?_
   | refine LeO.bind ?_ (fun _=>?_)
  ·intro y0 y1 y2 y3 y4 y5
   unfold impl_copyClock.l0
   repeat' first
   | (with_reducible exact ih0 _ _ _)
   | (with_reducible exact ih1 _ _ _ _ _ _)
   | (with_reducible exact LeO.refl _)
   | (with_reducible exact LeO.none _)
   | (with_reducible refine LeO.ite ?_ ?_)
   | (with_reducible refine LeO.bind ?_ (fun _=>?_))
   | exact ih0 _ _ _
   | exact ih1 _ _ _ _ _ _
   | exact LeO.none _
   | refine LeO.ite ?_ ?_
   | refine LeO.bind ?_ (fun _=>?_)
theorem impl_copyClock.mono:∀ a0 a1 a2 k,LeO (impl_copyClock.f k a0 a1 a2) (impl_copyClock.f (k + 1) a0 a1 a2):=by
 intro a0 a1 a2 k
 obtain ⟨ih0,ih1⟩:=impl_copyClock.mono_l k
 exact ih0 a0 a1 a2
def impl_copyClock.T5:Bool × List (List Nat × List Nat):=(true,[([],[]),([0],[0]),([],[]),([2],[2]),([3],[3]),([1,4,3],[1,4]),([0,1,2,3,4,5],[]),([6,5,5,0,1,2,3,4,5],[5,6])])
def impl_copyClock.B5:List Nat:=[0,1,0,4,12,31,63,127]
theorem impl_copyClock.tab5:rtab .any (opsOf Try.f48 5) = impl_copyClock.T5:=by kernel_rfl
theorem impl_copyClock.bits5:waitsOk impl_copyClock.T5.2 impl_copyClock.B5 = true:=by kernel_rfl
set_option maxHeartbeats 8000000 in
set_option maxRecDepth 100000 in
theorem impl_copyClock.calls (k:Nat):∀ (a0_0:Int) (a0_1:Int) (A0_2:Option Addr) (c0_2:Nat) (l0_2:List (S29)) (r1:Int) (r2:Int) (r3:List (S29)) (w:World) (hr0_2:Kd.C k29 w A0_2 l0_2.length l0_2) (hc0_2:l0_2.length ≤ c0_2) (h:impl_copyClock.f k a0_0 a0_1 l0_2 = some (r1,r2,r3)),
  Calls Try.prog 48 #[.agg #[.int .i64 a0_0,.int .i64 a0_1,.slice A0_2 l0_2.length c0_2]] w fun e w'=>∃ v2_:Value,e = .returned (.agg #[.int .i64 r1,.int .i64 r2,v2_])∧Kd.N k29 29 w' w.heap.size (fun k_=>(w.heap.size ≤ k_)) v2_ r3∧Below w.heap.size w w':=by
 induction k using Nat.strongRecOn with
 | _ k ih =>
 intro a0_0 a0_1 A0_2 c0_2 l0_2 r1 r2 r3 w hr0_2 hc0_2 h
 cases k with
 | zero=>exact absurd h (by simp [impl_copyClock.f])
 | succ k =>
 simp only [impl_copyClock.f] at h
 have hu29:=Try.underlying29
 have ZZ:=aQ hr0_2
 have YH:=aQ hc0_2
 clear hr0_2 hc0_2
 have HB:=aQ (Below.refl w.heap.size w)
 have H:=h
 clear h
 have H':=aQ H
 clear H
 go_enter Try.func48,Try.ntmps48
 go_wp2_with (first | ((with_reducible refine gate_dst (N:=1) rfl ?_);refine box1 (N:=1) (cs:=#[.int .i64 a0_0,.int .i64 a0_1,.slice A0_2 l0_2.length c0_2]) (t:=29) ?_;intro Zi hg w2 hbox hb;have Zd:=aQ (hbox);have Ya:=aQ (gB:w.heap.size ≤ Zi);have YI:=Ya;replace HB:=aQ (below_step bB hb);clear hb hbox hg) | ((with_reducible refine gate_dst (N:=2) rfl ?_);refine box1 (N:=2) (cs:=#[.int .i64 0,.int .i64 0,.slice none 0 0]) (t:=29) ?_;intro Zh hg w3 hbox hb;have Zf:=aQ (hbox);have Yb:=aQ (gB:w.heap.size ≤ Zh);have YJ:=Yb;replace HB:=aQ (below_step bB hb);have Zl:=aQ ((by rw [hg];exact Nat.ne_of_lt (blk_lt (nB Zd.out)):Zi ≠ Zh));have Zs:=aQ Zl.out.symm;replace Zd:=aQ (blk_below (nB Zd.out) hb);clear hb hbox hg;have YY:=Zl.out;have YZ:=Zs.out;obtain ⟨ZL,ZM,ZN,ZO,ZP,ZQ⟩:=cz3 Zd.out) | ((with_reducible refine gate_dst (N:=3) rfl ?_);refine box1 (N:=3) (cs:=#[.int .i64 0,.int .i64 0,.slice none 0 0]) (t:=29) ?_;intro Zg hg w6 hbox hb;have Zc:=aQ (hbox);have Yc:=aQ (gB:w.heap.size ≤ Zg);have YK:=Yc;replace HB:=aQ (below_step bB hb);have Zj:=aQ ((by rw [hg];exact Nat.ne_of_lt (blk_lt (nB Zd.out)):Zi ≠ Zg));have Zm:=aQ Zj.out.symm;replace Zd:=aQ (blk_below (nB Zd.out) hb);have Zk:=aQ ((by rw [hg];exact Nat.ne_of_lt (blk_lt (nB Zf.out)):Zh ≠ Zg));have Zn:=aQ Zk.out.symm;replace Zf:=aQ (blk_below (nB Zf.out) hb);clear hb hbox hg;have Xa:=Zm.out;have Xb:=Zj.out;have Xc:=Zn.out;have Xd:=Zk.out;obtain ⟨ZR,ZS,ZT,ZU,ZV,ZW⟩:=cz3 Zc.out;obtain ⟨ZD,ZE,ZF,ZG,ZH,ZI⟩:=cz3 Zd.out))
 go_loopg [14] k (fun kq v14 w'=>∃ (x14_1:Int) (x381002_1:List (S29)) (u381002:Value),v14 = .int .i64 x14_1∧Aside0 (impl_copyClock.l0 kq l0_2 (l0_2.length:Int) x14_1 a0_0 a0_1 x381002_1 = some (r1,r2,r3))∧Aside0 (kq ≤ k)∧Aside0 (Kd.N k29 29 w' w.heap.size (fun k_=>(w.heap.size ≤ k_)∧k_ ≠ Zi∧k_ ≠ Zh∧k_ ≠ Zg) u381002 x381002_1)∧Aside0 (w'.heap[Zi]? = some (.cells #[.int .i64 a0_0,.int .i64 a0_1,(.slice A0_2 l0_2.length c0_2)] 29 (0,0)))∧Aside0 (w'.heap[Zh]? = some (.cells #[.int .i64 0,.int .i64 0,(.slice none 0 0)] 29 (0,0)))∧Aside0 (w'.heap[Zg]? = some (.cells #[.int .i64 a0_0,.int .i64 a0_1,u381002] 29 (0,0)))∧Aside0 (Below w.heap.size w w'))
 case atStart=>exact ⟨(0),(([]:List (S29))),(.slice none 0 0),rfl,H',⟨Nat.le_refl _⟩,⟨by first | exact Kd.R_nil _ _ _ _ _ | exact Kd.N_nil _ _ _ _ _ | exact Kd.V_nil _ _ _ _ _ | exact Kd.Q_nil _ _ _ _ _ | exact Kd.S_nil _ _ _ _ _⟩,⟨bF⟩,⟨bF⟩,⟨bP⟩,⟨bB⟩⟩
 case round =>
  clear H'
  try clear ZD
  try clear ZE
  try clear ZF
  try clear ZL
  try clear ZM
  try clear ZN
  try clear ZR
  try clear ZS
  try clear ZT
  try clear ZG
  try clear ZH
  try clear ZI
  try clear ZO
  try clear ZP
  try clear ZQ
  try clear ZU
  try clear ZV
  try clear ZW
  repeat (first | clear Zb | clear Zd | clear Zf | clear Zc | clear HB)
  obtain ⟨x14_1,x381002_1,u381002,rfl,HA,HK1,Zb,Zd,Zf,Zc,HB⟩:=hrel
  cases gk with
  | zero=>exact absurd HA.out (by simp [impl_copyClock.l0])
  | succ k1 =>
   have H:=HA.out
   clear HA
   simp only [impl_copyClock.l0] at H
   by_cases c11:x14_1 < (l0_2.length:Int);rotate_left
   ·rw [if_neg c11] at H
    have c11b0:decide (x14_1 < (l0_2.length:Int)) = false:=decide_eq_false c11
    clear c11
    simp only [Option.some.injEq,Prod.mk.injEq] at H
    obtain ⟨rfl,rfl,rfl⟩:=H
    have YL:=Zm.out
    have YM:=Zj.out
    have YN:=Zn.out
    have YO:=Zk.out
    obtain ⟨Yp,Yq,Yr,Ys,Yt,Yu⟩:=cz3 Zc.out
    have YP:=Zs.out
    have YQ:=Zl.out
    obtain ⟨Yv,Yw,Yx,Yy,Yz,YA⟩:=cz3 Zf.out
    obtain ⟨Yi,Yj,Yk⟩:=Kd.N_slice Zb.out
    subst Yk
    go_wp2
    refine bodyPost_ret (results_cell_row rfl _ _ Zh 29 #[.int .i64 a0_0,.int .i64 a0_1,.slice Yi x381002_1.length Yj] (0,0) _ rfl bP Try.underlying29 rfl (by kernel_rfl)) rfl ?_
    exact ⟨_,rfl,by (with_reducible repeat (first | apply Kd.N_alloc | apply Kd.N_drewN | apply Kd.N_drew));exact Kd.N_mono (nFN (g:=Zh) Zb.out (fun k_ hk=>hk.2.2.1)) (fun _ hk=>hk.1),bB⟩
   rw [if_pos c11] at H
   have c11b0:decide (x14_1 < (l0_2.length:Int)) = true:=decide_eq_true c11
   clear c11
   by_cases c12:0 ≤ x14_1;rotate_left
   ·rw [if_neg c12] at H
    exact absurd H (by simp)
   rw [if_pos c12] at H
   have c12b0:decide (0 ≤ x14_1) = true:=decide_eq_true c12
   clear c12
   by_cases c13:x14_1 < (l0_2.length:Int);rotate_left
   ·rw [if_neg c13] at H
    exact absurd H (by simp)
   rw [if_pos c13] at H
   have c13b0:decide (x14_1 < (l0_2.length:Int)) = true:=decide_eq_true c13
   clear c13
   obtain ⟨⟨t383,t384,t385⟩,A14,H⟩:=bQ H
   dsimp only at H
   by_cases c15:x381002_1.length < 3518437208883;rotate_left
   ·rw [if_neg c15] at H
    exact absurd H (by simp)
   rw [if_pos c15] at H
   have LMc15:=aQ c15
   clear c15
   obtain ⟨y388,Zz⟩:∃ y_:List (S29),y_ = (x381002_1 ++ [(⟨t383,t384,t385⟩:S29)]):=⟨_,rfl⟩
   replace H:(impl_copyClock.l0 k1 l0_2 (l0_2.length:Int) (wrap64 (x14_1 + 1)) a0_0 a0_1 y388) = some (r1,r2,r3):=by rw [Zz];exact H
   have Yd:=aQ Zz
   clear Zz
   have H':=aQ H
   clear H
   have p381:0 ≤ (x14_1:Int):=of_decide_eq_true (by first | (with_reducible assumption) | assumption)
   have q381:x14_1 < (l0_2.length:Int):=of_decide_eq_true (by first | (with_reducible assumption) | assumption)
   obtain ⟨Ye,A381_2,c381_2,e381,Zp,Zq,Zr,Zx,Zy⟩:=at_T29 ZZ.out x14_1 p381 q381
   cases e381
   replace Zp:=(HB.out.cell (World.block_lt_of_cell? w _ Zp)).trans Zp
   replace Zq:=(HB.out.cell (World.block_lt_of_cell? w _ Zq)).trans Zq
   replace Zr:=(HB.out.cell (World.block_lt_of_cell? w _ Zr)).trans Zr
   have ZJ:=aQ Zy
   have ZK:=aQ Zx
   clear Zy Zx
   replace p381:=eq_true p381
   replace q381:=eq_true q381
   try go_wp2_with (first | ((with_reducible refine gate_dst (N:=5) rfl ?_);refine box1 (N:=5) (cs:=#[.int .i64 0,.int .i64 0,.slice none 0 0]) (t:=29) ?_;intro Za hg w16 hbox hb;replace Zb:=aQ (Kd.N_below (Kd.N_elderB (nN Zb.out) Za (Nat.le_of_eq hg.symm)) hb);have Ze:=aQ (hbox);have Yf:=aQ (gB:w.heap.size ≤ Za);have YR:=Yf;replace HB:=aQ (below_step bB hb);have Zt:=aQ ((by rw [hg];exact Nat.ne_of_lt (blk_lt (nB Zd.out)):Zi ≠ Za));have ZA:=aQ Zt.out.symm;replace Zd:=aQ (blk_below (nB Zd.out) hb);have Zu:=aQ ((by rw [hg];exact Nat.ne_of_lt (blk_lt (nB Zf.out)):Zh ≠ Za));have ZB:=aQ Zu.out.symm;replace Zf:=aQ (blk_below (nB Zf.out) hb);have Zo:=aQ ((by rw [hg];exact Nat.ne_of_lt (blk_lt (nB Zc.out)):Zg ≠ Za));have Zv:=aQ Zo.out.symm;replace Zc:=aQ (blk_below (nB Zc.out) hb);clear hb hbox hg;have YS:=ZA.out;have YT:=Zt.out;have YU:=ZB.out;have YV:=Zu.out;have YW:=Zv.out;have YX:=Zo.out;obtain ⟨YB,YC,YD,YE,YF,YG⟩:=cz3 Ze.out))
   have n0_:Aside0 (Kd.N k29 29 (((w16.setCell ⟨Za,0,none⟩ (.int .i64 ((rd_T29 l0_2 x14_1).f0))).setCell ⟨Za,1,none⟩ (.int .i64 ((rd_T29 l0_2 x14_1).f1))).setCell ⟨Za,2,none⟩ (.slice A381_2 ((rd_T29 l0_2 x14_1).f2).length c381_2)) w.heap.size (fun k_=>(w.heap.size ≤ k_)∧k_ ≠ Zi∧k_ ≠ Zh∧k_ ≠ Zg∧k_ ≠ Za) u381002 x381002_1):=⟨Kd.N_mono (nFN (g:=Za) Zb.out (fun k_ hk=>hk.2)) (fun _ hk=>⟨hk.1.1,⟨hk.1.2.1,⟨hk.1.2.2.1,⟨hk.1.2.2.2,hk.2⟩⟩⟩⟩)⟩
   have n1_:Aside0 ((((w16.setCell ⟨Za,0,none⟩ (.int .i64 ((rd_T29 l0_2 x14_1).f0))).setCell ⟨Za,1,none⟩ (.int .i64 ((rd_T29 l0_2 x14_1).f1))).setCell ⟨Za,2,none⟩ (.slice A381_2 ((rd_T29 l0_2 x14_1).f2).length c381_2)).heap[Zi]? = some (.cells #[.int .i64 a0_0,.int .i64 a0_1,.slice (some Ye) l0_2.length c0_2] 29 (0,0))):=⟨bF⟩
   have n2_:Aside0 ((((w16.setCell ⟨Za,0,none⟩ (.int .i64 ((rd_T29 l0_2 x14_1).f0))).setCell ⟨Za,1,none⟩ (.int .i64 ((rd_T29 l0_2 x14_1).f1))).setCell ⟨Za,2,none⟩ (.slice A381_2 ((rd_T29 l0_2 x14_1).f2).length c381_2)).heap[Zh]? = some (.cells #[.int .i64 0,.int .i64 0,.slice none 0 0] 29 (0,0))):=⟨bF⟩
   have n3_:Aside0 ((((w16.setCell ⟨Za,0,none⟩ (.int .i64 ((rd_T29 l0_2 x14_1).f0))).setCell ⟨Za,1,none⟩ (.int .i64 ((rd_T29 l0_2 x14_1).f1))).setCell ⟨Za,2,none⟩ (.slice A381_2 ((rd_T29 l0_2 x14_1).f2).length c381_2)).heap[Zg]? = some (.cells #[.int .i64 a0_0,.int .i64 a0_1,u381002] 29 (0,0))):=⟨bF⟩
   have n4_:Aside0 ((((w16.setCell ⟨Za,0,none⟩ (.int .i64 ((rd_T29 l0_2 x14_1).f0))).setCell ⟨Za,1,none⟩ (.int .i64 ((rd_T29 l0_2 x14_1).f1))).setCell ⟨Za,2,none⟩ (.slice A381_2 ((rd_T29 l0_2 x14_1).f2).length c381_2)).heap[Za]? = some (.cells #[.int .i64 ((rd_T29 l0_2 x14_1).f0),.int .i64 ((rd_T29 l0_2 x14_1).f1),.slice A381_2 ((rd_T29 l0_2 x14_1).f2).length c381_2] 29 (0,0))):=⟨bP⟩
   have n5_:Aside0 (Below w.heap.size w (((w16.setCell ⟨Za,0,none⟩ (.int .i64 ((rd_T29 l0_2 x14_1).f0))).setCell ⟨Za,1,none⟩ (.int .i64 ((rd_T29 l0_2 x14_1).f1))).setCell ⟨Za,2,none⟩ (.slice A381_2 ((rd_T29 l0_2 x14_1).f2).length c381_2))):=⟨bB⟩
   (try clear Zb)
   (try clear Zd)
   (try clear Zf)
   (try clear Zc)
   (try clear Ze)
   (try clear HB)
   generalize (((w16.setCell ⟨Za,0,none⟩ (.int .i64 ((rd_T29 l0_2 x14_1).f0))).setCell ⟨Za,1,none⟩ (.int .i64 ((rd_T29 l0_2 x14_1).f1))).setCell ⟨Za,2,none⟩ (.slice A381_2 ((rd_T29 l0_2 x14_1).f2).length c381_2)) = w21 at n0_ n1_ n2_ n3_ n4_ n5_ ⊢
   have Zb:=n0_
   have Zd:=n1_
   have Zf:=n2_
   have Zc:=n3_
   have Ze:=n4_
   have HB:=n5_
   clear n0_ n1_ n2_ n3_ n4_ n5_
   replace Zb:=aQ (Kd.N_drew Zb.out)
   replace Zd:=aQ (blk_drew Zd.out)
   replace Zf:=aQ (blk_drew Zf.out)
   replace Zc:=aQ (blk_drew Zc.out)
   replace Ze:=aQ (blk_drew Ze.out)
   replace HB:=aQ (below_drew1 HB.out)
   refine start_ (n:=8) (S:=fun w'=>w'.cell? ⟨Zg,0,none⟩ = some (.int .i64 a0_0)∧w'.cell? ⟨Zg,1,none⟩ = some (.int .i64 a0_1)∧w'.cell? ⟨Zg,2,none⟩ = some (u381002)∧w'.cell? ⟨Za,0,none⟩ = some (.int .i64 ((rd_T29 l0_2 x14_1).f0))∧w'.cell? ⟨Za,1,none⟩ = some (.int .i64 ((rd_T29 l0_2 x14_1).f1))∧w'.cell? ⟨Za,2,none⟩ = some (.slice A381_2 ((rd_T29 l0_2 x14_1).f2).length c381_2)) (ds:=[7]) #[false,false,false,false,false,false,false,false] (by kernel_rfl) rfl rfl ⟨(blk_cell Zc.out 0).trans rfl,(blk_cell Zc.out 1).trans rfl,(blk_cell Zc.out 2).trans rfl,(blk_cell Ze.out 0).trans rfl,(blk_cell Ze.out 1).trans rfl,(blk_cell Ze.out 2).trans rfl⟩ (fun hHeld=>?_);refine with_tabW impl_copyClock.tab5 impl_copyClock.bits5 (fun HT_ HW_=>?_)
   generalize w21.drew = w22 at Zb Zd Zf Zc Ze HB hHeld ⊢
   refine pur (i:=0) (N:=some 18) #[true,false,false,false,false,false,false,false] ?_
   refine tak (i:=1) (N:=some 19) #[true,true,false,false,false,false,false,false] ?_
   refine tak (i:=2) (N:=some 20) #[true,true,true,false,false,false,false,false] ?_
   refine one_ (i:=3) (N:=some 21) #[true,true,true,true,false,false,false,false] rfl rfl (one_of HT_.out (by kernel_rfl)) (by decide) (fun K hK=>?_)
   refine goes1 Try.func48 #[.agg #[.int .i64 ((rd_T29 l0_2 x14_1).f0),.int .i64 ((rd_T29 l0_2 x14_1).f1),.slice A381_2 ((rd_T29 l0_2 x14_1).f2).length c381_2]] ?_
   with_reducible refine (ih k1 (by have:=HK1.out;omega) ((rd_T29 l0_2 x14_1).f0) ((rd_T29 l0_2 x14_1).f1) _ _ ((rd_T29 l0_2 x14_1).f2) t383 t384 t385 _ ?Yg ?Yh A14.out).mono ?_
   (case Yg=>repeat (first | exact (Kd.C_below ZJ.out HB.out) | (with_reducible refine Kd.C_alloc ?_ _) | (with_reducible refine Kd.C_drewN ?_ _) | (with_reducible refine Kd.C_drew ?_)))
   (case Yh=>exact ZK.out)
   rintro e w23 ⟨v386,rfl,ho0,hb⟩
   refine ⟨_,rfl,?_⟩
   have Zw:=aQ (Kd.N_lower (Kd.N_mono (ok':=fun k_=>(w.heap.size ≤ k_)∧some k_ ≠ (u381002:Value).ownBlock∧k_ ≠ Zi∧k_ ≠ Zh∧k_ ≠ Zg∧k_ ≠ Za) ho0 (fun k_ hk_=>⟨(Nat.le_trans (below_size bB) hk_),(Kd.fresh' (Kd.N_lt (nN Zb.out)) k_ hk_),(Kd.freshB (nB Zd.out) k_ hk_),(Kd.freshB (nB Zf.out) k_ hk_),(Kd.freshB (nB Zc.out) k_ hk_),(Kd.freshB (nB Ze.out) k_ hk_)⟩)) (below_size bB))
   replace Zb:=aQ (Kd.N_elder' (nN Zb.out) (Kd.N_base ho0) hb)
   replace Zd:=aQ (blk_below (nB Zd.out) hb)
   replace Zf:=aQ (blk_below (nB Zf.out) hb)
   replace Zc:=aQ (blk_below (nB Zc.out) hb)
   replace Ze:=aQ (blk_below (nB Ze.out) hb)
   replace HB:=aQ (below_step bB hb)
   (try clear hb)
   (try clear ho0)
   obtain ⟨Yl,Ym,ZX⟩:=Kd.N_slice Zw.out
   (first | subst ZX | (injection ZX with f1_ f2_ f3_;have f4_:=f1_.symm;have f5_:=f3_.symm;clear f1_ f2_ f3_;subst f4_;subst f5_))
   refine hK.out _ _ ⟨(blk_cell Zc.out 0).trans rfl,(blk_cell Zc.out 1).trans rfl,(blk_cell Zc.out 2).trans rfl,(blk_cell Ze.out 0).trans rfl,(blk_cell Ze.out 1).trans rfl,(blk_cell Ze.out 2).trans rfl⟩ (fun hHeld=>?_)
   clear hK K
   refine nrm (N:=some 21) ?_
   refine one_ (i:=4) (N:=some 22) #[true,true,true,true,true,false,false,false] rfl rfl (one_of HT_.out (by kernel_rfl)) (by decide) (fun K hK=>?_)
   refine value_ (w1:=?_) (v:=?_) (by rfl) rfl ?_ ?_
   rotate_left 2
   ·go_simp
    constructor
    ·rfl
    ·rfl
   refine hK.out _ _ ⟨(blk_cell (blk_alloc Zc.out _) 0).trans rfl,(blk_cell (blk_alloc Zc.out _) 1).trans rfl,(blk_cell (blk_alloc Zc.out _) 2).trans rfl,(blk_cell (blk_alloc Ze.out _) 0).trans rfl,(blk_cell (blk_alloc Ze.out _) 1).trans rfl,(blk_cell (blk_alloc Ze.out _) 2).trans rfl⟩ (fun hHeld=>?_)
   clear hK K
   refine nrm (N:=some 22) ?_
   refine one_ (i:=5) (N:=some 23) #[true,true,true,true,true,true,false,false] rfl rfl (one_of HT_.out (by kernel_rfl)) (by decide) (fun K hK=>?_)
   refine Kd.N_append_step k29 (w0:=w) w.heap.size (by rfl) (.tmp 19) (.tmp 22) 27 29 (.agg #[(.int .i64 0),(.int .i64 0),(.slice none 0 0)]) 40 rfl Try.underlying27 info29 rfl (by decide) (by omega) u381002 x381002_1 (⟨t383,t384,t385⟩:S29) [.int .i64 t383,.int .i64 t384,.slice Yl t385.length Ym] (fun k_=>(w.heap.size ≤ k_)∧k_ ≠ Zi∧k_ ≠ Zh∧k_ ≠ Zg∧k_ ≠ Za) (fun k_=>((fun k_=>(w.heap.size ≤ k_)∧k_ ≠ Zi∧k_ ≠ Zh∧k_ ≠ Zg∧k_ ≠ Za)) k_∧some k_ ≠ (u381002:Value).ownBlock) rfl rfl ?aP (fun _ hk=>hk) ?aF ?aO ?aB ?aS ?aL ?_
   (case aP=>exact (k29_mkF _ _ (⟨t383,t384,t385⟩:S29) (Kd.N_reads' (Kd.N_mono (ok':=(fun k_=>((fun k_=>(w.heap.size ≤ k_)∧k_ ≠ Zi∧k_ ≠ Zh∧k_ ≠ Zg∧k_ ≠ Za)) k_∧some k_ ≠ (u381002:Value).ownBlock)) (Zw.out) (fun k_ hk=>⟨⟨hk.1,⟨hk.2.2.1,⟨hk.2.2.2.1,⟨hk.2.2.2.2.1,hk.2.2.2.2.2⟩⟩⟩⟩,hk.2.1⟩))).2.1 (Kd.N_F (Kd.N_mono (ok':=(fun k_=>((fun k_=>(w.heap.size ≤ k_)∧k_ ≠ Zi∧k_ ≠ Zh∧k_ ≠ Zg∧k_ ≠ Za)) k_∧some k_ ≠ (u381002:Value).ownBlock)) (Zw.out) (fun k_ hk=>⟨⟨hk.1,⟨hk.2.2.1,⟨hk.2.2.2.1,⟨hk.2.2.2.2.1,hk.2.2.2.2.2⟩⟩⟩⟩,hk.2.1⟩)))))
   (case aB=>exact bB)
   (case aF=>exact (fun k_ hk=>⟨(Nat.le_trans (below_size bB) hk),Kd.freshB (nB Zd.out) k_ hk,Kd.freshB (nB Zf.out) k_ hk,Kd.freshB (nB Zc.out) k_ hk,Kd.freshB (nB Ze.out) k_ hk⟩))
   (case aO=>exact (nN (Kd.N_mono Zb.out (fun _ hk=>⟨hk.1.1,⟨hk.1.2.1,⟨hk.1.2.2.1,⟨hk.1.2.2.2.1,hk.1.2.2.2.2⟩⟩⟩⟩))))
   (case aS=>exact (below_size bB))
   (case aL=>have:=LMc15.out;omega)
   intro v389 w24 ho hb hg hat
   rw [← Yd.out] at ho
   have n0_:=aQ (blk_grown (nB Zd.out) hg (Kd.N_away Zb.out (fun _ hk=>hk.1.2.1)))
   have n1_:=aQ (blk_grown (nB Zf.out) hg (Kd.N_away Zb.out (fun _ hk=>hk.1.2.2.1)))
   have n2_:=aQ (blk_grown (nB Zc.out) hg (Kd.N_away Zb.out (fun _ hk=>hk.1.2.2.2.1)))
   have n3_:=aQ (blk_grown (nB Ze.out) hg (Kd.N_away Zb.out (fun _ hk=>hk.1.2.2.2.2)))
   have n4_:=aQ (hb)
   have n5_:=aQ (ho)
   clear Zd Zf Zc Ze HB Zb Zw
   have Zd:=n0_
   have Zf:=n1_
   have Zc:=n2_
   have Ze:=n3_
   have HB:=n4_
   have ZC:=n5_
   clear n0_ n1_ n2_ n3_ n4_ n5_
   clear ho hb hg hat
   obtain ⟨Yn,Yo,ZY⟩:=Kd.N_slice ZC.out
   (first | subst ZY | (injection ZY with f1_ f2_ f3_;have f4_:=f1_.symm;have f5_:=f3_.symm;clear f1_ f2_ f3_;subst f4_;subst f5_))
   refine hK.out _ _ ⟨(blk_cell Zc.out 0).trans rfl,(blk_cell Zc.out 1).trans rfl,(blk_cell Zc.out 2).trans rfl,(blk_cell Ze.out 0).trans rfl,(blk_cell Ze.out 1).trans rfl,(blk_cell Ze.out 2).trans rfl⟩ (fun hHeld=>?_)
   clear hK K
   refine nrm (N:=some 23) ?_
   refine pur (i:=6) (N:=some 24) #[true,true,true,true,true,true,true,false] ?_
   refine last_ (i:=7) (N:=none) #[true,true,true,true,true,true,true,true] rfl rfl (one_of HT_.out (by kernel_rfl)) (by decide) (fun K hK=>?_)
   have hs27:w24.cell? ⟨Zg,2,none⟩ = some (u381002):=(blk_cell Zc.out 2).trans rfl
   have hfs27:=blk_frozen Zc.out 2
   have hns27_0:=Zj.out
   have hns27_1:=Zk.out
   have hns27_3:=Zv.out
   have hms27_0:=Zm.out
   have hms27_1:=Zn.out
   have hms27_3:=Zo.out
   refine skip_ (w1:=?_) (by rfl) rfl ?_ ?_
   rotate_left
   ·go_simp
    rfl
   refine hK.out _ _ ?_
   clear hK K
   refine done_ (done_of HT_.out (by kernel_rfl)) ?_
   try go_wp2
   go_roundg k1
   case measure=>have:=HK1.out;omega
   case rel=>exact ⟨(wrap64 (x14_1 + 1)),(y388),(.slice Yn y388.length Yo),rfl,H',⟨by have:=HK1.out;omega⟩,⟨Kd.N_mono (nFN (g:=Zg) ZC.out (fun k_ hk=>hk.2.2.2.1)) (fun _ hk=>⟨hk.1,⟨hk.2.1,⟨hk.2.2.1,hk.2.2.2.1⟩⟩⟩)⟩,⟨bF⟩,⟨bF⟩,⟨bP⟩,⟨bB⟩⟩
mutual
def spec_l17Copy.l0:Nat → Int → Int → Int → List (S29) → Int → Int → List (S29) → Option (Int × Int × (List (S29)))
 | 0,_,_,_,_,_,_,_=>none
 | k + 1,x4,x426000,x426001,x426002,x428000,x428001,x428002=>if x4 < (x426002.length:Int) then (if 0 ≤ x4 then ((spec_l17Copy.f k ((rd_T29 x426002 x4).f0) ((rd_T29 x426002 x4).f1) ((rd_T29 x426002 x4).f2)).bind fun bt429=>(if x428002.length < 3518437208883 then (spec_l17Copy.l0 k (wrap64 (x4 + 1)) x426000 x426001 x426002 x428000 x428001 (x428002 ++ [(⟨bt429.1,bt429.2.1,bt429.2.2⟩:S29)])) else (none))) else (none)) else (some (x428000,x428001,x428002))
def spec_l17Copy.f:Nat → Int → Int → List (S29) → Option (Int × Int × (List (S29)))
 | 0,_,_,_=>none
 | k + 1,a0_0,a0_1,l0_2=>spec_l17Copy.l0 k 0 a0_0 a0_1 l0_2 a0_0 a0_1 ([]:List (S29))
end
theorem spec_l17Copy.mono_l:∀ k,(∀ y0 y1 y2,LeO (spec_l17Copy.f k y0 y1 y2) (spec_l17Copy.f (k + 1) y0 y1 y2))∧(∀ y0 y1 y2 y3 y4 y5 y6,LeO (spec_l17Copy.l0 k y0 y1 y2 y3 y4 y5 y6) (spec_l17Copy.l0 (k + 1) y0 y1 y2 y3 y4 y5 y6))
 | 0=>⟨fun _ _ _ r h=>by simp [spec_l17Copy.f] at h,fun _ _ _ _ _ _ _ r h=>by simp [spec_l17Copy.l0] at h⟩
 | k + 1=>by
  obtain ⟨ih0,ih1⟩:=spec_l17Copy.mono_l k
  refine ⟨?_,?_⟩
  ·intro y0 y1 y2
   unfold spec_l17Copy.f
   repeat' first
   | (with_reducible exact ih0 _ _ _)
   | (with_reducible exact ih1 _ _ _ _ _ _ _)
   | (with_reducible exact LeO.refl _)
   | (with_reducible exact LeO.none _)
   | (with_reducible refine LeO.ite ?_ ?_)
   | (with_reducible refine LeO.bind ?_ (fun _=>?_))
   | exact ih0 _ _ _
   | exact ih1 _ _ _ _ _ _ _
   | exact LeO.none _
   | refine LeO.ite ?_ ?_
   | refine LeO.bind ?_ (fun _=>?_)
  ·intro y0 y1 y2 y3 y4 y5 y6
   unfold spec_l17Copy.l0
   repeat' first
   | (with_reducible exact ih0 _ _ _)
   | (with_reducible exact ih1 _ _ _ _ _ _ _)
   | (with_reducible exact LeO.refl _)
   | (with_reducible exact LeO.none _)
   | (with_reducible refine LeO.ite ?_ ?_)
   | (with_reducible refine LeO.bind ?_ (fun _=>?_))
   | exact ih0 _ _ _
   | exact ih1 _ _ _ _ _ _ _
   | exact LeO.none _
   | refine LeO.ite ?_ ?_
   | refine LeO.bind ?_ (fun _=>?_)
theorem spec_l17Copy.mono:∀ a0 a1 a2 k,LeO (spec_l17Copy.f k a0 a1 a2) (spec_l17Copy.f (k + 1) a0 a1 a2):=by
 intro a0 a1 a2 k
 obtain ⟨ih0,ih1⟩:=spec_l17Copy.mono_l k
 exact ih0 a0 a1 a2
def spec_l17Copy.T5:Bool × List (List Nat × List Nat):=(true,[([],[]),([0],[0]),([],[]),([2],[2]),([],[]),([3,4],[3,4]),([5],[5]),([6],[6]),([7],[7]),([1,8,7],[1,8]),([0,1,2,3,4,5,6,7,8,9],[]),([10,9,9,0,1,2,3,4,5,6,7,8,9],[9,10])])
def spec_l17Copy.B5:List Nat:=[0,1,0,4,0,28,60,124,252,511,1023,2047]
theorem spec_l17Copy.tab5:rtab .any (opsOf Try.f52 5) = spec_l17Copy.T5:=by kernel_rfl
theorem spec_l17Copy.bits5:waitsOk spec_l17Copy.T5.2 spec_l17Copy.B5 = true:=by kernel_rfl
set_option maxHeartbeats 8000000 in
set_option maxRecDepth 100000 in
theorem spec_l17Copy.calls (k:Nat):∀ (a0_0:Int) (a0_1:Int) (A0_2:Option Addr) (c0_2:Nat) (l0_2:List (S29)) (r1:Int) (r2:Int) (r3:List (S29)) (w:World) (hr0_2:Kd.C k29 w A0_2 l0_2.length l0_2) (hc0_2:l0_2.length ≤ c0_2) (h:spec_l17Copy.f k a0_0 a0_1 l0_2 = some (r1,r2,r3)),
  Calls Try.prog 52 #[.agg #[.int .i64 a0_0,.int .i64 a0_1,.slice A0_2 l0_2.length c0_2]] w fun e w'=>∃ v2_:Value,e = .returned (.agg #[.int .i64 r1,.int .i64 r2,v2_])∧Kd.N k29 29 w' w.heap.size (fun k_=>(w.heap.size ≤ k_)) v2_ r3∧Below w.heap.size w w':=by
 induction k using Nat.strongRecOn with
 | _ k ih =>
 intro a0_0 a0_1 A0_2 c0_2 l0_2 r1 r2 r3 w hr0_2 hc0_2 h
 cases k with
 | zero=>exact absurd h (by simp [spec_l17Copy.f])
 | succ k =>
 simp only [spec_l17Copy.f] at h
 have hu29:=Try.underlying29
 have ZP:=aQ hr0_2
 have YB:=aQ hc0_2
 clear hr0_2 hc0_2
 have HB:=aQ (Below.refl w.heap.size w)
 have H:=h
 clear h
 have H':=aQ H
 clear H
 go_enter Try.func52,Try.ntmps52
 go_wp2_with (first | ((with_reducible refine gate_dst (N:=1) rfl ?_);refine box1 (N:=1) (cs:=#[.int .i64 a0_0,.int .i64 a0_1,.slice A0_2 l0_2.length c0_2]) (t:=29) ?_;intro Zi hg w2 hbox hb;have Za:=aQ (hbox);have ZQ:=aQ (gB:w.heap.size ≤ Zi);have YC:=ZQ;replace HB:=aQ (below_step bB hb);clear hb hbox hg) | ((with_reducible refine gate_dst (N:=2) rfl ?_);refine box1 (N:=2) (cs:=#[.int .i64 0,.int .i64 0,.slice none 0 0]) (t:=29) ?_;intro Zj hg w3 hbox hb;have Zd:=aQ (hbox);have ZR:=aQ (gB:w.heap.size ≤ Zj);have YD:=ZR;replace HB:=aQ (below_step bB hb);have Zl:=aQ ((by rw [hg];exact Nat.ne_of_lt (blk_lt (nB Za.out)):Zi ≠ Zj));have Zr:=aQ Zl.out.symm;replace Za:=aQ (blk_below (nB Za.out) hb);clear hb hbox hg;have YP:=Zl.out;have YQ:=Zr.out;obtain ⟨ZB,ZC,ZD,ZE,ZF,ZG⟩:=cz3 Za.out) | ((with_reducible refine gate_dst (N:=3) rfl ?_);refine box1 (N:=3) (cs:=#[.int .i64 0,.int .i64 0,.slice none 0 0]) (t:=29) ?_;intro Ze hg w6 hbox hb;have Zb:=aQ (hbox);have ZS:=aQ (gB:w.heap.size ≤ Ze);have YE:=ZS;replace HB:=aQ (below_step bB hb);have Zk:=aQ ((by rw [hg];exact Nat.ne_of_lt (blk_lt (nB Za.out)):Zi ≠ Ze));have Zm:=aQ Zk.out.symm;replace Za:=aQ (blk_below (nB Za.out) hb);have Zn:=aQ ((by rw [hg];exact Nat.ne_of_lt (blk_lt (nB Zd.out)):Zj ≠ Ze));have Zs:=aQ Zn.out.symm;replace Zd:=aQ (blk_below (nB Zd.out) hb);clear hb hbox hg;have YR:=Zm.out;have YS:=Zk.out;have YT:=Zs.out;have YU:=Zn.out;obtain ⟨ZH,ZI,ZJ,ZK,ZL,ZM⟩:=cz3 Zb.out))
 go_loopg [4] k (fun kq v4 w'=>∃ (x4_1:Int) (x428002_1:List (S29)) (u428002:Value),v4 = .int .i64 x4_1∧Aside0 (spec_l17Copy.l0 kq x4_1 a0_0 a0_1 l0_2 a0_0 a0_1 x428002_1 = some (r1,r2,r3))∧Aside0 (kq ≤ k)∧Aside0 (Kd.N k29 29 w' w.heap.size (fun k_=>(w.heap.size ≤ k_)∧k_ ≠ Zi∧k_ ≠ Zj∧k_ ≠ Ze) u428002 x428002_1)∧Aside0 (w'.heap[Zi]? = some (.cells #[.int .i64 a0_0,.int .i64 a0_1,(.slice A0_2 l0_2.length c0_2)] 29 (0,0)))∧Aside0 (w'.heap[Zj]? = some (.cells #[.int .i64 0,.int .i64 0,(.slice none 0 0)] 29 (0,0)))∧Aside0 (w'.heap[Ze]? = some (.cells #[.int .i64 a0_0,.int .i64 a0_1,u428002] 29 (0,0)))∧Aside0 (Below w.heap.size w w'))
 case atStart=>exact ⟨(0),(([]:List (S29))),(.slice none 0 0),rfl,H',⟨Nat.le_refl _⟩,⟨by first | exact Kd.R_nil _ _ _ _ _ | exact Kd.N_nil _ _ _ _ _ | exact Kd.V_nil _ _ _ _ _ | exact Kd.Q_nil _ _ _ _ _ | exact Kd.S_nil _ _ _ _ _⟩,⟨bF⟩,⟨bF⟩,⟨bP⟩,⟨bB⟩⟩
 case round =>
  clear H'
  try clear ZB
  try clear ZC
  try clear ZD
  try clear ZH
  try clear ZI
  try clear ZJ
  try clear ZE
  try clear ZF
  try clear ZG
  try clear ZK
  try clear ZL
  try clear ZM
  repeat (first | clear Zc | clear Za | clear Zd | clear Zb | clear HB)
  obtain ⟨x4_1,x428002_1,u428002,rfl,HA,HK1,Zc,Za,Zd,Zb,HB⟩:=hrel
  cases gk with
  | zero=>exact absurd HA.out (by simp [spec_l17Copy.l0])
  | succ k1 =>
   have H:=HA.out
   clear HA
   simp only [spec_l17Copy.l0] at H
   by_cases c10:x4_1 < (l0_2.length:Int);rotate_left
   ·rw [if_neg c10] at H
    have c10b0:decide (x4_1 < (l0_2.length:Int)) = false:=decide_eq_false c10
    clear c10
    simp only [Option.some.injEq,Prod.mk.injEq] at H
    obtain ⟨rfl,rfl,rfl⟩:=H
    have YF:=Zl.out
    have YG:=Zr.out
    have YH:=Zk.out
    have YI:=Zm.out
    obtain ⟨Yd,Ye,Yf,Yg,Yh,Yi⟩:=cz3 Za.out
    have YJ:=Zs.out
    have YK:=Zn.out
    obtain ⟨Yj,Yk,Yl,Ym,Yn,Yo⟩:=cz3 Zb.out
    obtain ⟨Yp,Yq,Yr,Ys,Yt,Yu⟩:=cz3 Zd.out
    obtain ⟨ZW,ZX,ZY⟩:=Kd.N_slice Zc.out
    subst ZY
    go_wp2
    refine bodyPost_ret (results_cell_row rfl _ _ Zj 29 #[.int .i64 a0_0,.int .i64 a0_1,.slice ZW x428002_1.length ZX] (0,0) _ rfl bP Try.underlying29 rfl (by kernel_rfl)) rfl ?_
    exact ⟨_,rfl,by (with_reducible repeat (first | apply Kd.N_alloc | apply Kd.N_drewN | apply Kd.N_drew));exact Kd.N_mono (nFN (g:=Zj) Zc.out (fun k_ hk=>hk.2.2.1)) (fun _ hk=>hk.1),bB⟩
   rw [if_pos c10] at H
   have c10b0:decide (x4_1 < (l0_2.length:Int)) = true:=decide_eq_true c10
   clear c10
   by_cases c11:0 ≤ x4_1;rotate_left
   ·rw [if_neg c11] at H
    exact absurd H (by simp)
   rw [if_pos c11] at H
   have c11b0:decide (0 ≤ x4_1) = true:=decide_eq_true c11
   clear c11
   obtain ⟨⟨t429,t430,t431⟩,A12,H⟩:=bQ H
   dsimp only at H
   by_cases c13:x428002_1.length < 3518437208883;rotate_left
   ·rw [if_neg c13] at H
    exact absurd H (by simp)
   rw [if_pos c13] at H
   have LMc13:=aQ c13
   clear c13
   obtain ⟨y434,Zy⟩:∃ y_:List (S29),y_ = (x428002_1 ++ [(⟨t429,t430,t431⟩:S29)]):=⟨_,rfl⟩
   replace H:(spec_l17Copy.l0 k1 (wrap64 (x4_1 + 1)) a0_0 a0_1 l0_2 a0_0 a0_1 y434) = some (r1,r2,r3):=by rw [Zy];exact H
   have ZT:=aQ Zy
   clear Zy
   have H':=aQ H
   clear H
   have YL:=Zl.out
   have YM:=Zr.out
   have YN:=Zk.out
   have YO:=Zm.out
   obtain ⟨Yv,Yw,Yx,Yy,Yz,YA⟩:=cz3 Za.out
   try go_wp2
   replace Zc:=aQ (Kd.N_drew Zc.out)
   replace Za:=aQ (blk_drew Za.out)
   replace Zd:=aQ (blk_drew Zd.out)
   replace Zb:=aQ (blk_drew Zb.out)
   replace HB:=aQ (below_drew1 HB.out)
   have p428:0 ≤ (x4_1:Int):=of_decide_eq_true (by first | (with_reducible assumption) | assumption)
   have q428:x4_1 < (l0_2.length:Int):=of_decide_eq_true (by first | (with_reducible assumption) | assumption)
   obtain ⟨Zt,A428_2,c428_2,e428,Zo,Zp,Zq,Zv,Zw⟩:=at_T29 ZP.out x4_1 p428 q428
   have Zf:=Zq
   have Zg:=Zp
   have Zh:=Zo
   cases e428
   replace Zo:=(HB.out.cell (World.block_lt_of_cell? w _ Zo)).trans Zo
   replace Zp:=(HB.out.cell (World.block_lt_of_cell? w _ Zp)).trans Zp
   replace Zq:=(HB.out.cell (World.block_lt_of_cell? w _ Zq)).trans Zq
   have Zx:=aQ Zw
   have ZA:=aQ Zv
   clear Zw Zv
   replace p428:=eq_true p428
   replace q428:=eq_true q428
   refine start_ (n:=12) (S:=fun w'=>w'.cell? ⟨Ze,0,none⟩ = some (.int .i64 a0_0)∧w'.cell? ⟨Ze,1,none⟩ = some (.int .i64 a0_1)∧w'.cell? ⟨Ze,2,none⟩ = some (u428002)∧w'.cell? ⟨Zi,0,none⟩ = some (.int .i64 a0_0)∧w'.cell? ⟨Zi,1,none⟩ = some (.int .i64 a0_1)∧w'.cell? ⟨Zi,2,none⟩ = some (.slice (some Zt) l0_2.length c0_2)∧w'.cell? (Zt.add ((x4_1).toNat * 3)) = some (.int .i64 ((rd_T29 l0_2 x4_1).f0))∧w'.cell? ⟨(Zt.add ((x4_1).toNat * 3)).block,(Zt.add ((x4_1).toNat * 3)).off + 1,none⟩ = some (.int .i64 ((rd_T29 l0_2 x4_1).f1))∧w'.cell? ⟨(Zt.add ((x4_1).toNat * 3)).block,(Zt.add ((x4_1).toNat * 3)).off + 2,none⟩ = some (.slice A428_2 ((rd_T29 l0_2 x4_1).f2).length c428_2)) (ds:=[11]) #[false,false,false,false,false,false,false,false,false,false,false,false] (by kernel_rfl) rfl rfl ⟨(blk_cell Zb.out 0).trans rfl,(blk_cell Zb.out 1).trans rfl,(blk_cell Zb.out 2).trans rfl,(blk_cell Za.out 0).trans rfl,(blk_cell Za.out 1).trans rfl,(blk_cell Za.out 2).trans rfl,((HB.out.cell (World.block_lt_of_cell? w _ Zh)).trans Zh),((HB.out.cell (World.block_lt_of_cell? w _ Zg)).trans Zg),((HB.out.cell (World.block_lt_of_cell? w _ Zf)).trans Zf)⟩ (fun hHeld=>?_);refine with_tabW spec_l17Copy.tab5 spec_l17Copy.bits5 (fun HT_ HW_=>?_)
   generalize wr.drew = w17 at Zc Za Zd Zb HB Zx Zo Zp Zq hHeld ⊢
   refine pur (i:=0) (N:=some 17) #[true,false,false,false,false,false,false,false,false,false,false,false] ?_
   refine pur (i:=2) (N:=some 19) #[true,false,true,false,false,false,false,false,false,false,false,false] ?_
   refine pur (i:=4) (N:=some 21) #[true,false,true,false,true,false,false,false,false,false,false,false] ?_
   refine tak (i:=1) (N:=some 18) #[true,true,true,false,true,false,false,false,false,false,false,false] ?_
   refine tak (i:=3) (N:=some 20) #[true,true,true,true,true,false,false,false,false,false,false,false] ?_
   refine pur (i:=5) (N:=some 22) #[true,true,true,true,true,true,false,false,false,false,false,false] ?_
   refine tak (i:=6) (N:=some 23) #[true,true,true,true,true,true,true,false,false,false,false,false] ?_
   refine one_ (i:=7) (N:=some 24) #[true,true,true,true,true,true,true,true,false,false,false,false] rfl rfl (one_of HT_.out (by kernel_rfl)) (by decide) (fun K hK=>?_)
   refine goes1 Try.func52 #[.agg #[.int .i64 ((rd_T29 l0_2 x4_1).f0),.int .i64 ((rd_T29 l0_2 x4_1).f1),.slice A428_2 ((rd_T29 l0_2 x4_1).f2).length c428_2]] ?_
   with_reducible refine (ih k1 (by have:=HK1.out;omega) ((rd_T29 l0_2 x4_1).f0) ((rd_T29 l0_2 x4_1).f1) _ _ ((rd_T29 l0_2 x4_1).f2) t429 t430 t431 _ ?ZU ?ZV A12.out).mono ?_
   (case ZU=>repeat (first | exact (Kd.C_below Zx.out HB.out) | (with_reducible refine Kd.C_alloc ?_ _) | (with_reducible refine Kd.C_drewN ?_ _) | (with_reducible refine Kd.C_drew ?_)))
   (case ZV=>exact ZA.out)
   rintro e w18 ⟨v432,rfl,ho0,hb⟩
   refine ⟨_,rfl,?_⟩
   have Zu:=aQ (Kd.N_lower (Kd.N_mono (ok':=fun k_=>(w.heap.size ≤ k_)∧some k_ ≠ (u428002:Value).ownBlock∧k_ ≠ Zi∧k_ ≠ Zj∧k_ ≠ Ze) ho0 (fun k_ hk_=>⟨(Nat.le_trans (below_size bB) hk_),(Kd.fresh' (Kd.N_lt (nN Zc.out)) k_ hk_),(Kd.freshB (nB Za.out) k_ hk_),(Kd.freshB (nB Zd.out) k_ hk_),(Kd.freshB (nB Zb.out) k_ hk_)⟩)) (below_size bB))
   replace Zc:=aQ (Kd.N_elder' (nN Zc.out) (Kd.N_base ho0) hb)
   replace Za:=aQ (blk_below (nB Za.out) hb)
   replace Zd:=aQ (blk_below (nB Zd.out) hb)
   replace Zb:=aQ (blk_below (nB Zb.out) hb)
   replace HB:=aQ (below_step bB hb)
   (try clear hb)
   (try clear ho0)
   obtain ⟨ZZ,Ya,ZN⟩:=Kd.N_slice Zu.out
   (first | subst ZN | (injection ZN with f1_ f2_ f3_;have f4_:=f1_.symm;have f5_:=f3_.symm;clear f1_ f2_ f3_;subst f4_;subst f5_))
   refine hK.out _ _ ⟨(blk_cell Zb.out 0).trans rfl,(blk_cell Zb.out 1).trans rfl,(blk_cell Zb.out 2).trans rfl,(blk_cell Za.out 0).trans rfl,(blk_cell Za.out 1).trans rfl,(blk_cell Za.out 2).trans rfl,((HB.out.cell (World.block_lt_of_cell? w _ Zh)).trans Zh),((HB.out.cell (World.block_lt_of_cell? w _ Zg)).trans Zg),((HB.out.cell (World.block_lt_of_cell? w _ Zf)).trans Zf)⟩ (fun hHeld=>?_)
   clear hK K
   refine nrm (N:=some 24) ?_
   refine one_ (i:=8) (N:=some 25) #[true,true,true,true,true,true,true,true,true,false,false,false] rfl rfl (one_of HT_.out (by kernel_rfl)) (by decide) (fun K hK=>?_)
   refine value_ (w1:=?_) (v:=?_) (by rfl) rfl ?_ ?_
   rotate_left 2
   ·go_simp
    constructor
    ·rfl
    ·rfl
   refine hK.out _ _ ⟨(blk_cell (blk_alloc Zb.out _) 0).trans rfl,(blk_cell (blk_alloc Zb.out _) 1).trans rfl,(blk_cell (blk_alloc Zb.out _) 2).trans rfl,(blk_cell (blk_alloc Za.out _) 0).trans rfl,(blk_cell (blk_alloc Za.out _) 1).trans rfl,(blk_cell (blk_alloc Za.out _) 2).trans rfl,(World.cell?_alloc_lt _ _ _ (World.block_lt_of_cell? _ _ (((HB.out.cell (World.block_lt_of_cell? w _ Zh)).trans Zh)))).trans (((HB.out.cell (World.block_lt_of_cell? w _ Zh)).trans Zh)),(World.cell?_alloc_lt _ _ _ (World.block_lt_of_cell? _ _ (((HB.out.cell (World.block_lt_of_cell? w _ Zg)).trans Zg)))).trans (((HB.out.cell (World.block_lt_of_cell? w _ Zg)).trans Zg)),(World.cell?_alloc_lt _ _ _ (World.block_lt_of_cell? _ _ (((HB.out.cell (World.block_lt_of_cell? w _ Zf)).trans Zf)))).trans (((HB.out.cell (World.block_lt_of_cell? w _ Zf)).trans Zf))⟩ (fun hHeld=>?_)
   clear hK K
   refine nrm (N:=some 25) ?_
   refine one_ (i:=9) (N:=some 26) #[true,true,true,true,true,true,true,true,true,true,false,false] rfl rfl (one_of HT_.out (by kernel_rfl)) (by decide) (fun K hK=>?_)
   refine Kd.N_append_step k29 (w0:=w) w.heap.size (by rfl) (.tmp 18) (.tmp 25) 27 29 (.agg #[(.int .i64 0),(.int .i64 0),(.slice none 0 0)]) 40 rfl Try.underlying27 info29 rfl (by decide) (by omega) u428002 x428002_1 (⟨t429,t430,t431⟩:S29) [.int .i64 t429,.int .i64 t430,.slice ZZ t431.length Ya] (fun k_=>(w.heap.size ≤ k_)∧k_ ≠ Zi∧k_ ≠ Zj∧k_ ≠ Ze) (fun k_=>((fun k_=>(w.heap.size ≤ k_)∧k_ ≠ Zi∧k_ ≠ Zj∧k_ ≠ Ze)) k_∧some k_ ≠ (u428002:Value).ownBlock) rfl rfl ?aP (fun _ hk=>hk) ?aF ?aO ?aB ?aS ?aL ?_
   (case aP=>exact (k29_mkF _ _ (⟨t429,t430,t431⟩:S29) (Kd.N_reads' (Kd.N_mono (ok':=(fun k_=>((fun k_=>(w.heap.size ≤ k_)∧k_ ≠ Zi∧k_ ≠ Zj∧k_ ≠ Ze)) k_∧some k_ ≠ (u428002:Value).ownBlock)) (Zu.out) (fun k_ hk=>⟨⟨hk.1,⟨hk.2.2.1,⟨hk.2.2.2.1,hk.2.2.2.2⟩⟩⟩,hk.2.1⟩))).2.1 (Kd.N_F (Kd.N_mono (ok':=(fun k_=>((fun k_=>(w.heap.size ≤ k_)∧k_ ≠ Zi∧k_ ≠ Zj∧k_ ≠ Ze)) k_∧some k_ ≠ (u428002:Value).ownBlock)) (Zu.out) (fun k_ hk=>⟨⟨hk.1,⟨hk.2.2.1,⟨hk.2.2.2.1,hk.2.2.2.2⟩⟩⟩,hk.2.1⟩)))))
   (case aB=>exact bB)
   (case aF=>exact (fun k_ hk=>⟨(Nat.le_trans (below_size bB) hk),Kd.freshB (nB Za.out) k_ hk,Kd.freshB (nB Zd.out) k_ hk,Kd.freshB (nB Zb.out) k_ hk⟩))
   (case aO=>exact (nN (Kd.N_mono Zc.out (fun _ hk=>⟨hk.1.1,⟨hk.1.2.1,⟨hk.1.2.2.1,hk.1.2.2.2⟩⟩⟩))))
   (case aS=>exact (below_size bB))
   (case aL=>have:=LMc13.out;omega)
   intro v435 w19 ho hb hg hat
   rw [← ZT.out] at ho
   have n0_:=aQ (blk_grown (nB Za.out) hg (Kd.N_away Zc.out (fun _ hk=>hk.1.2.1)))
   have n1_:=aQ (blk_grown (nB Zd.out) hg (Kd.N_away Zc.out (fun _ hk=>hk.1.2.2.1)))
   have n2_:=aQ (blk_grown (nB Zb.out) hg (Kd.N_away Zc.out (fun _ hk=>hk.1.2.2.2)))
   have n3_:=aQ (hb)
   have n4_:=aQ (ho)
   clear Za Zd Zb HB Zc Zu
   have Za:=n0_
   have Zd:=n1_
   have Zb:=n2_
   have HB:=n3_
   have Zz:=n4_
   clear n0_ n1_ n2_ n3_ n4_
   clear ho hb hg hat
   obtain ⟨Yb,Yc,ZO⟩:=Kd.N_slice Zz.out
   (first | subst ZO | (injection ZO with f1_ f2_ f3_;have f4_:=f1_.symm;have f5_:=f3_.symm;clear f1_ f2_ f3_;subst f4_;subst f5_))
   refine hK.out _ _ ⟨(blk_cell Zb.out 0).trans rfl,(blk_cell Zb.out 1).trans rfl,(blk_cell Zb.out 2).trans rfl,(blk_cell Za.out 0).trans rfl,(blk_cell Za.out 1).trans rfl,(blk_cell Za.out 2).trans rfl,((HB.out.cell (World.block_lt_of_cell? w _ Zh)).trans Zh),((HB.out.cell (World.block_lt_of_cell? w _ Zg)).trans Zg),((HB.out.cell (World.block_lt_of_cell? w _ Zf)).trans Zf)⟩ (fun hHeld=>?_)
   clear hK K
   refine nrm (N:=some 26) ?_
   refine pur (i:=10) (N:=some 27) #[true,true,true,true,true,true,true,true,true,true,true,false] ?_
   refine last_ (i:=11) (N:=none) #[true,true,true,true,true,true,true,true,true,true,true,true] rfl rfl (one_of HT_.out (by kernel_rfl)) (by decide) (fun K hK=>?_)
   have hs22:w19.cell? ⟨Ze,2,none⟩ = some (u428002):=(blk_cell Zb.out 2).trans rfl
   have hfs22:=blk_frozen Zb.out 2
   have hns22_0:=Zk.out
   have hns22_1:=Zn.out
   have hms22_0:=Zm.out
   have hms22_1:=Zs.out
   refine skip_ (w1:=?_) (by rfl) rfl ?_ ?_
   rotate_left
   ·go_simp
    rfl
   refine hK.out _ _ ?_
   clear hK K
   refine done_ (done_of HT_.out (by kernel_rfl)) ?_
   try go_wp2
   go_roundg k1
   case measure=>have:=HK1.out;omega
   case rel=>exact ⟨(wrap64 (x4_1 + 1)),(y434),(.slice Yb y434.length Yc),rfl,H',⟨by have:=HK1.out;omega⟩,⟨Kd.N_mono (nFN (g:=Ze) Zz.out (fun k_ hk=>hk.2.2.2)) (fun _ hk=>⟨hk.1,⟨hk.2.1,⟨hk.2.2.1,hk.2.2.2⟩⟩⟩)⟩,⟨bF⟩,⟨bF⟩,⟨bP⟩,⟨bB⟩⟩
def spec_l17Two.f (a0:Int) (a1_0:Int) (a1_1:Int) (l1_2:List (S29)) (a2_0:Int) (a2_1:Int) (l2_2:List (S29)):Option (Int × Int × (List (S29))):=some (a0,0,(([(⟨a1_0,a1_1,l1_2⟩:S29),(⟨a2_0,a2_1,l2_2⟩:S29)]:List (S29))))
set_option maxHeartbeats 8000000 in
set_option maxRecDepth 100000 in
theorem spec_l17Two.calls (a0:Int) (a1_0:Int) (a1_1:Int) (P1_2_:Nat → Prop) (A1_2:Option Addr) (c1_2:Nat) (l1_2:List (S29)) (a2_0:Int) (a2_1:Int) (P2_2_:Nat → Prop) (A2_2:Option Addr) (c2_2:Nat) (l2_2:List (S29)) (r1:Int) (r2:Int) (r3:List (S29)) (w:World) (hs1_2:Kd.V k29 29 w w.heap.size (fun k_=>P1_2_ k_) (.slice A1_2 l1_2.length c1_2) l1_2) (hs2_2:Kd.V k29 29 w w.heap.size (fun k_=>P2_2_ k_) (.slice A2_2 l2_2.length c2_2) l2_2) (h:spec_l17Two.f a0 a1_0 a1_1 l1_2 a2_0 a2_1 l2_2 = some (r1,r2,r3)) :
  Calls Try.prog 66 #[.int .i64 a0,.agg #[.int .i64 a1_0,.int .i64 a1_1,.slice A1_2 l1_2.length c1_2],.agg #[.int .i64 a2_0,.int .i64 a2_1,.slice A2_2 l2_2.length c2_2]] w fun e w'=>∃ v2_:Value,e = .returned (.agg #[.int .i64 r1,.int .i64 r2,v2_])∧Kd.N k29 29 w' w.heap.size (fun k_=>((P1_2_ k_ ∨ P2_2_ k_) ∨ w.heap.size ≤ k_)) v2_ r3∧Below w.heap.size w w':=by
 have hu29:=Try.underlying29
 have Zd:=aQ (show Kd.V k29 29 w w.heap.size (fun k_=>((P1_2_ k_ ∨ P2_2_ k_) ∨ w.heap.size ≤ k_)) (.slice A1_2 l1_2.length c1_2) l1_2 from Kd.V_mono hs1_2 (fun k_ hk=>.inl (.inl hk)))
 have Ze:=aQ (show Kd.V k29 29 w w.heap.size (fun k_=>((P1_2_ k_ ∨ P2_2_ k_) ∨ w.heap.size ≤ k_)) (.slice A2_2 l2_2.length c2_2) l2_2 from Kd.V_mono hs2_2 (fun k_ hk=>.inl (.inr hk)))
 have HB:=aQ (Below.refl w.heap.size w)
 have H:=h
 clear h
 obtain ⟨y440,Zl⟩:∃ y_:List (S29),y_ = (([(⟨a1_0,a1_1,l1_2⟩:S29),(⟨a2_0,a2_1,l2_2⟩:S29)]:List (S29))):=⟨_,rfl⟩
 replace H:(some (a0,0,y440)) = some (r1,r2,r3):=by rw [Zl];exact H
 have Zp:=aQ Zl
 clear Zl
 simp only [Option.some.injEq,Prod.mk.injEq] at H
 obtain ⟨rfl,rfl,rfl⟩:=H
 go_enter Try.func66,Try.ntmps66
 go_wp2_with (first | ((with_reducible refine gate_dst (N:=4) rfl ?_);refine box1 (N:=4) (cs:=#[.int .i64 a1_0,.int .i64 a1_1,.slice A1_2 l1_2.length c1_2]) (t:=29) ?_;intro Zb hg w4 hbox hb;replace Zd:=aQ (Kd.V_below (Kd.V_elderB (nV Zd.out) Zb (Nat.le_of_eq hg.symm)) hb);replace Ze:=aQ (Kd.V_below (Kd.V_elderB (nV Ze.out) Zb (Nat.le_of_eq hg.symm)) hb);have Zf:=aQ (hbox);have Zr:=aQ (gB:w.heap.size ≤ Zb);have ZP:=Zr;replace HB:=aQ (below_step bB hb);clear hb hbox hg) | ((with_reducible refine gate_dst (N:=5) rfl ?_);refine box1 (N:=5) (cs:=#[.int .i64 a2_0,.int .i64 a2_1,.slice A2_2 l2_2.length c2_2]) (t:=29) ?_;intro Zc hg w5 hbox hb;replace Zd:=aQ (Kd.V_below (Kd.V_elderB (nV Zd.out) Zc (Nat.le_of_eq hg.symm)) hb);replace Ze:=aQ (Kd.V_below (Kd.V_elderB (nV Ze.out) Zc (Nat.le_of_eq hg.symm)) hb);have Zg:=aQ (hbox);have Zs:=aQ (gB:w.heap.size ≤ Zc);have ZQ:=Zs;replace HB:=aQ (below_step bB hb);have Zh:=aQ ((by rw [hg];exact Nat.ne_of_lt (blk_lt (nB Zf.out)):Zb ≠ Zc));have Zm:=aQ Zh.out.symm;replace Zf:=aQ (blk_below (nB Zf.out) hb);clear hb hbox hg) | ((with_reducible refine gate_dst (N:=6) rfl ?_);refine box1 (N:=6) (cs:=#[.int .i64 0,.int .i64 0,.slice none 0 0]) (t:=29) ?_;intro Za hg w6 hbox hb;replace Zd:=aQ (Kd.V_below (Kd.V_elderB (nV Zd.out) Za (Nat.le_of_eq hg.symm)) hb);replace Ze:=aQ (Kd.V_below (Kd.V_elderB (nV Ze.out) Za (Nat.le_of_eq hg.symm)) hb);have Zk:=aQ (hbox);have Zt:=aQ (gB:w.heap.size ≤ Za);have ZR:=Zt;replace HB:=aQ (below_step bB hb);have Zi:=aQ ((by rw [hg];exact Nat.ne_of_lt (blk_lt (nB Zf.out)):Zb ≠ Za));have Zn:=aQ Zi.out.symm;replace Zf:=aQ (blk_below (nB Zf.out) hb);have Zj:=aQ ((by rw [hg];exact Nat.ne_of_lt (blk_lt (nB Zg.out)):Zc ≠ Za));have Zo:=aQ Zj.out.symm;replace Zg:=aQ (blk_below (nB Zg.out) hb);clear hb hbox hg;have ZU:=Zh.out;have ZV:=Zm.out;have ZW:=Zi.out;have ZX:=Zn.out;obtain ⟨ZJ,ZK,ZL,ZM,ZN,ZO⟩:=cz3 Zf.out;have ZS:=Zj.out;have ZT:=Zo.out;obtain ⟨Zx,Zy,Zz,ZA,ZB,ZC⟩:=cz3 Zg.out) | ((with_reducible refine gate_dst (N:=10) rfl ?_);refine Kd.N_lit k29 _ 29 ?hg (N':=10) ?hd (xs:=([(⟨a1_0,a1_1,l1_2⟩:S29),(⟨a2_0,a2_1,l2_2⟩:S29)]:List (S29))) (inner:=[.int .i64 a1_0,.int .i64 a1_1,.slice A1_2 l1_2.length c1_2,.int .i64 a2_0,.int .i64 a2_1,.slice A2_2 l2_2.length c2_2]) (ok:=(fun k_=>((P1_2_ k_ ∨ P2_2_ k_) ∨ w.heap.size ≤ k_)∧k_ ≠ Zb∧k_ ≠ Zc∧k_ ≠ Za)) (okp:=(fun k_=>((P1_2_ k_ ∨ P2_2_ k_) ∨ w.heap.size ≤ k_)∧k_ ≠ Zb∧k_ ≠ Zc∧k_ ≠ Za)) ?hr ?hp (fun _ hk=>hk) ((show ∀ k_,w6.heap.size ≤ k_ → (fun k_=>((P1_2_ k_ ∨ P2_2_ k_) ∨ w.heap.size ≤ k_)∧k_ ≠ Zb∧k_ ≠ Zc∧k_ ≠ Za) k_ from fun k_ hk=>⟨(.inr (Nat.le_trans (below_size bB) hk)),Kd.freshB (nB Zf.out) k_ hk,Kd.freshB (nB Zg.out) k_ hk,Kd.freshB (nB Zk.out) k_ hk⟩) _ (Nat.le_refl _)) (Below.refl _ _) (Nat.le_refl _) (by simp) ?_;(case hd=>rfl);(case hg=>rfl);(case hr=>first | (go_simp;done) | (go_simp;rfl));(case hp=>exact (Reps.c3 (show Kd.FK k29 _ _ (⟨a1_0,a1_1,l1_2⟩:S29) [.int .i64 a1_0,.int .i64 a1_1,.slice A1_2 l1_2.length c1_2] from (k29_mkF _ _ (⟨a1_0,a1_1,l1_2⟩:S29) (Kd.V_reads' (Kd.V_mono (ok':=(fun k_=>((P1_2_ k_ ∨ P2_2_ k_) ∨ w.heap.size ≤ k_)∧k_ ≠ Zb∧k_ ≠ Zc∧k_ ≠ Za)) (Zd.out) (fun k_ hk=>⟨hk.1.1.1,⟨hk.1.1.2,⟨hk.1.2,hk.2⟩⟩⟩))).2.1 (Kd.V_F (Kd.V_mono (ok':=(fun k_=>((P1_2_ k_ ∨ P2_2_ k_) ∨ w.heap.size ≤ k_)∧k_ ≠ Zb∧k_ ≠ Zc∧k_ ≠ Za)) (Zd.out) (fun k_ hk=>⟨hk.1.1.1,⟨hk.1.1.2,⟨hk.1.2,hk.2⟩⟩⟩))))) (Reps.c3 (show Kd.FK k29 _ _ (⟨a2_0,a2_1,l2_2⟩:S29) [.int .i64 a2_0,.int .i64 a2_1,.slice A2_2 l2_2.length c2_2] from (k29_mkF _ _ (⟨a2_0,a2_1,l2_2⟩:S29) (Kd.V_reads' (Kd.V_mono (ok':=(fun k_=>((P1_2_ k_ ∨ P2_2_ k_) ∨ w.heap.size ≤ k_)∧k_ ≠ Zb∧k_ ≠ Zc∧k_ ≠ Za)) (Ze.out) (fun k_ hk=>⟨hk.1.1.1,⟨hk.1.1.2,⟨hk.1.2,hk.2⟩⟩⟩))).2.1 (Kd.V_F (Kd.V_mono (ok':=(fun k_=>((P1_2_ k_ ∨ P2_2_ k_) ∨ w.heap.size ≤ k_)∧k_ ≠ Zb∧k_ ≠ Zc∧k_ ≠ Za)) (Ze.out) (fun k_ hk=>⟨hk.1.1.1,⟨hk.1.1.2,⟨hk.1.2,hk.2⟩⟩⟩))))) (Reps.none _ _))));intro v441 w12 ho13 hb hg_ hnew_;clear hg_ hnew_;(first | rw [← Zp.out] at ho13 | (simp only [Int.reduceToNat] at ho13;rw [← Zp.out] at ho13));replace Zd:=aQ (Kd.V_elder' (nV Zd.out) (Kd.N_base ho13) hb);replace Ze:=aQ (Kd.V_elder' (nV Ze.out) (Kd.N_base ho13) hb);have Zq:=aQ (Kd.N_lower ho13 (below_size bB));replace Zf:=aQ (blk_below (nB Zf.out) hb);replace Zg:=aQ (blk_below (nB Zg.out) hb);replace Zk:=aQ (blk_below (nB Zk.out) hb);replace HB:=aQ (below_step bB hb);clear hb ho13;obtain ⟨Zu,Zv,Zw⟩:=Kd.N_slice Zq.out;subst Zw;obtain ⟨ZD,ZE,ZF,ZG,ZH,ZI⟩:=cz3 Zk.out))
 refine bodyPost_ret (results_cell_row rfl _ _ Za 29 #[.int .i64 a0,.int .i64 0,.slice Zu y440.length Zv] (0,0) _ rfl bP Try.underlying29 rfl (by kernel_rfl)) rfl ?_
 exact ⟨_,rfl,by (with_reducible repeat (first | apply Kd.N_alloc | apply Kd.N_drewN | apply Kd.N_drew));exact Kd.N_mono (nFN (g:=Za) Zq.out (fun k_ hk=>hk.2.2.2)) (fun _ hk=>hk.1),bB⟩
end Go.Proofs.Ytnkgcjdlfenepaa.P
