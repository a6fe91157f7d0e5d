/- What the Go functions that the laws reach compute, and that their calls come to just that: told by a program of this session (aprint.py). No condition. -/
import Derived.Test.YtnkgcjdlfenepaaP0
namespace Go.Proofs.Ytnkgcjdlfenepaa.P
open Go.RowKit Go.Proofs.YtnkgcjdlfenepaaW.PrintWords Go.Proofs.YtnkgcjdlfenepaaW.PrintLast Go.Proofs.YtnkgcjdlfenepaaW.PrintMore
attribute [local go_sem] max2_int min2_int max_two min_two max_three min_three max_four min_four
set_option linter.unusedVariables false
set_option linter.unusedSimpArgs false
def IsS67 (w0 W:World) (g:Nat) (f0:List Int) (f1:Int):Prop:=∃ A0 c0,W.heap[g]? = some (.cells #[.slice A0 f0.length c0,.int .i64 f1] 67 (0,0))∧w0.heap.size ≤ g∧Kd.C (Kd.int .u8) w0 A0 f0.length f0
theorem IsS67.grown {w0 W:World} {g:Nat} {f0:List Int} {f1:Int} {W1:World} {row:Option Nat} (h:IsS67 w0 W g f0 f1) (hw:W.grownBy W1 row) (hne:some g ≠ row):IsS67 w0 W1 g f0 f1:=by
 obtain ⟨A0,c0,hb,hg,hr0⟩:=h
 exact ⟨A0,c0,blk_grown hb hw hne,hg,hr0⟩
theorem IsS67.fresh {w0 W:World} {g:Nat} {f0:List Int} {f1:Int} (h:IsS67 w0 W g f0 f1):∀ k,W.heap.size ≤ k → k ≠ g:=by
 obtain ⟨A0,c0,hb,hg,hr0⟩:=h
 exact Kd.freshB hb
theorem IsS67.kept {w0 W:World} {g:Nat} {f0:List Int} {f1:Int} {W1:World} {S:Nat → Prop} (h:IsS67 w0 W g f0 f1) (hk:Kept W W1 S) (hne:¬ S g):IsS67 w0 W1 g f0 f1:=by
 obtain ⟨A0,c0,hb,hg,hr0⟩:=h
 exact ⟨A0,c0,blk_kept hb hk hne,hg,hr0⟩
theorem IsS67.below {w0 W:World} {g:Nat} {f0:List Int} {f1:Int} {W1:World} (h:IsS67 w0 W g f0 f1) (hw:Below W.heap.size W W1):IsS67 w0 W1 g f0 f1:=h.grown (grown_of_below hw none) (by simp)
theorem IsS67.alloc {w0 W:World} {g:Nat} {f0:List Int} {f1:Int} (h:IsS67 w0 W g f0 f1) (o:Obj):IsS67 w0 (W.alloc o) g f0 f1:=h.below (below_alloc (Below.refl _ _) o)
theorem IsS67.drewN {w0 W:World} {g:Nat} {f0:List Int} {f1:Int} (h:IsS67 w0 W g f0 f1) (m:Nat):IsS67 w0 (W.drewN m) g f0 f1:=h
theorem IsS67.drew {w0 W:World} {g:Nat} {f0:List Int} {f1:Int} (h:IsS67 w0 W g f0 f1):IsS67 w0 W.drew g f0 f1:=h
theorem IsS67.at_ {w0 W:World} {g:Nat} {f0:List Int} {f1:Int} {w':World} {m:Nat} (hq:W.drewN m = w') (h:IsS67 w0 W g f0 f1):IsS67 w0 w' g f0 f1:=by subst hq;exact IsS67.drewN h m
theorem IsS67.apart {w0 W:World} {g:Nat} {f0:List Int} {f1:Int} {α:Type} {d:Kd α} {e:Nat} {base:Nat} {ok:Nat → Prop} {v:Value} {xs:List α} (h:IsS67 w0 W g f0 f1) (ho:d.R e W base ok v xs) (ht:∀ q,q ∈ e :: d.E → q ≠ 67):d.R e W base (fun k=>ok k∧k ≠ g) v xs:=by
 obtain ⟨A0,c0,hb,hg,hr0⟩:=h
 exact Kd.R_types ho hb ht
theorem IsS67.own_ne {w0 W:World} {g:Nat} {f0:List Int} {f1:Int} {α:Type} {d:Kd α} {e:Nat} {base:Nat} {ok:Nat → Prop} {v:Value} {xs:List α} (h:IsS67 w0 W g f0 f1) (ho:d.R e W base ok v xs) (ht:e ≠ 67):some g ≠ v.ownBlock:=by
 obtain ⟨A0,c0,hb,hg,hr0⟩:=h
 exact Kd.R_ne ho hb ht
theorem IsS67.lt {w0 W:World} {g:Nat} {f0:List Int} {f1:Int} (h:IsS67 w0 W g f0 f1):g < W.heap.size:=by
 obtain ⟨A0,c0,hb,hg,hr0⟩:=h
 exact blk_lt hb
theorem IsS67.ge {w0 W:World} {g:Nat} {f0:List Int} {f1:Int} (h:IsS67 w0 W g f0 f1):w0.heap.size ≤ g:=by
 obtain ⟨A0,c0,hb,hg,hr0⟩:=h
 exact hg
theorem IsS67.ne_blk {w0 W:World} {g:Nat} {f0:List Int} {f1:Int} {a:Nat} {cs:Array Value} {t:TypeId} {fr:Nat × Nat} (h:IsS67 w0 W g f0 f1) (hb2:W.heap[a]? = some (.cells cs t fr)) (ht:t ≠ 67):g ≠ a:=by
 obtain ⟨A0,c0,hb,hg,hr0⟩:=h
 rintro rfl
 rw [hb] at hb2
 injection hb2 with hb2
 injection hb2 with _ ht2
 exact ht ht2.symm
theorem IsS67.far {w0 W:World} {g:Nat} {f0:List Int} {f1:Int} {p:Addr} (h:IsS67 w0 W g f0 f1) (hne:g ≠ p.block) (u:Value):IsS67 w0 (W.setCell p u) g f0 f1:=by
 obtain ⟨A0,c0,hb,hg,hr0⟩:=h
 exact ⟨A0,c0,blk_far hb hne u,hg,hr0⟩
theorem cellS67_0 {W:World} {g:Nat} {A0:Option Addr} {c0:Nat} {f0:List Int} {f1:Int} (h:W.heap[g]? = some (.cells #[.slice A0 f0.length c0,.int .i64 f1] 67 (0,0))):W.cell? ⟨g,0,none⟩ = some (.slice A0 f0.length c0):=(blk_cell h 0).trans rfl
theorem cellS67_1 {W:World} {g:Nat} {A0:Option Addr} {c0:Nat} {f0:List Int} {f1:Int} (h:W.heap[g]? = some (.cells #[.slice A0 f0.length c0,.int .i64 f1] 67 (0,0))):W.cell? ⟨g,1,none⟩ = some (.int .i64 f1):=(blk_cell h 1).trans rfl
theorem IsS67.set_1 {w0 W:World} {g:Nat} {f0:List Int} {f1:Int} (h:IsS67 w0 W g f0 f1) (x:Int):IsS67 w0 (W.setCell ⟨g,1,none⟩ (.int .i64 x)) g f0 x:=by
 obtain ⟨A0,c0,hb,hg,hr0⟩:=h
 exact ⟨A0,c0,by simpa using blk_set hb 1 (.int .i64 x),hg,hr0⟩
def spec_l6In.f (a0:Int) (a1:Int) (a2:Int):Option (Bool):=if a0 ≥ a1 then (some (decide (a0 ≤ a2))) else (some false)
set_option maxHeartbeats 8000000 in
set_option maxRecDepth 100000 in
theorem spec_l6In.calls (a0:Int) (a1:Int) (a2:Int) (r:Bool) (w:World) (h:spec_l6In.f a0 a1 a2 = some r) :
  Calls Try.prog 39 #[.int .i64 a0,.int .i64 a1,.int .i64 a2] w fun e w'=>e = .returned (.bool r)∧Drawn0 w w':=by
 have H:(if a0 ≥ a1 then (some (decide (a0 ≤ a2))) else (some false)) = some r:=h
 clear h
 by_cases c4:a0 ≥ a1
 ·rw [if_pos c4] at H
  have c4b0:decide (a1 ≤ a0) = true:=decide_eq_true c4
  clear c4
  obtain rfl:=Option.some.inj H
  go_enter Try.func39,Try.ntmps39
  go_wp2
  go_ret
  exact ⟨by first | rfl | (simp;done) | (simp [*];done),by repeat (first | exact Drawn0.refl _ | apply Drawn0.step)⟩
 ·rw [if_neg c4] at H
  have c4b0:decide (a1 ≤ a0) = false:=decide_eq_false c4
  clear c4
  obtain rfl:=Option.some.inj H
  go_enter Try.func39,Try.ntmps39
  go_wp2
  go_ret
  exact ⟨by first | rfl | (simp;done) | (simp [*];done),by repeat (first | exact Drawn0.refl _ | apply Drawn0.step)⟩
def spec_ActOk.f (a0:Int):Option (Bool):=(spec_l6In.f a0 (-4) 4).bind fun t109=>(some t109)
set_option maxHeartbeats 8000000 in
set_option maxRecDepth 100000 in
theorem spec_ActOk.calls (a0:Int) (r:Bool) (w:World) (h:spec_ActOk.f a0 = some r) :
  Calls Try.prog 57 #[.int .i64 a0] w fun e w'=>e = .returned (.bool r)∧Drawn0 w w':=by
 have H:((spec_l6In.f a0 (-4) 4).bind fun t109=>(some t109)) = some r:=h
 clear h
 replace H:=Option.bind_eq_some_iff.mp H
 obtain ⟨t109,A20,H⟩:=H
 replace H:(some t109) = some r:=H
 have A2:=Aside0.mk A20
 clear A20
 obtain rfl:=Option.some.inj H
 go_enter Try.func57,Try.ntmps57
 go_wp2_with (first | ((with_reducible refine gate_callee (f:=39) rfl ?_);refine goesL_ (some 4) rfl rfl Try.func39 (by kernel_rfl) rfl #[.int .i64 a0,.int .i64 (-4),.int .i64 4] rfl (by (try simp only [List.map_toArray,List.map_cons,List.map_nil]);first | done | rfl | (simp only [List.length_drop,List.length_take];rfl)) ?_;(with_reducible refine (spec_l6In.calls a0 (-4) 4 t109 _ A2.out).mono ?_);rintro e w' ⟨rfl,⟨nd,rfl⟩⟩;refine ⟨_,rfl,?_⟩))
 go_ret
 exact ⟨by first | rfl | (simp;done) | (simp [*];done),by repeat (first | exact Drawn0.refl _ | apply Drawn0.step)⟩
mutual
def spec_l17Nodes.j0:Nat → Int → Bool → Int → Int → List (S29) → Option (Int)
 | 0,_,_,_,_,_=>none
 | k + 1,x3,x4,x111000,x111001,x111002=>if x4 = true then (spec_l17Nodes.j1 k x3 ((x111002.length:Int) != x3) x111000 x111001 x111002) else (spec_l17Nodes.j1 k x3 true x111000 x111001 x111002)
def spec_l17Nodes.j1:Nat → Int → Bool → Int → Int → List (S29) → Option (Int)
 | 0,_,_,_,_,_=>none
 | k + 1,x3,x36,x111000,x111001,x111002=>if x36 = true then (some 0) else (spec_l17Nodes.l0 k x3 1 0 x111000 x111001 x111002)
def spec_l17Nodes.l0:Nat → Int → Int → Int → Int → Int → List (S29) → Option (Int)
 | 0,_,_,_,_,_,_=>none
 | k + 1,x3,x5,x6,x111000,x111001,x111002=>if x6 < x3 then (if 0 ≤ x6 then (if x6 < (x111002.length:Int) then ((spec_l17Nodes.f k ((rd_T29 x111002 x6).f0) ((rd_T29 x111002 x6).f1) ((rd_T29 x111002 x6).f2)).bind fun t114=>(if t114 = 0 then (some 0) else (spec_l17Nodes.l0 k x3 (mn 1000 (wrap64 (x5 + t114))) (wrap64 (x6 + 1)) x111000 x111001 x111002))) else (none)) else (none)) else (some x5)
def spec_l17Nodes.f:Nat → Int → Int → List (S29) → Option (Int)
 | 0,_,_,_=>none
 | k + 1,a0_0,a0_1,l0_2=>if a0_0 = 0 then (spec_l17Nodes.j0 k 0 (a0_1 == 0) a0_0 a0_1 l0_2) else (if a0_0 = 1 then ((spec_ActOk.f a0_1).bind fun t111=>(spec_l17Nodes.j0 k 1 t111 a0_0 a0_1 l0_2)) else (if a0_0 = 2 then ((spec_l6In.f a0_1 1 9).bind fun t112=>(spec_l17Nodes.j0 k 1 t112 a0_0 a0_1 l0_2)) else (if a0_0 = 3 then (spec_l17Nodes.j0 k 2 (a0_1 == 0) a0_0 a0_1 l0_2) else (if a0_0 = 4 then (spec_l17Nodes.j0 k 2 (a0_1 == 0) a0_0 a0_1 l0_2) else (some 0)))))
end
theorem spec_l17Nodes.mono_l:∀ k,(∀ y0 y1 y2,LeO (spec_l17Nodes.f k y0 y1 y2) (spec_l17Nodes.f (k + 1) y0 y1 y2))∧(∀ y0 y1 y2 y3 y4,LeO (spec_l17Nodes.j0 k y0 y1 y2 y3 y4) (spec_l17Nodes.j0 (k + 1) y0 y1 y2 y3 y4))∧(∀ y0 y1 y2 y3 y4,LeO (spec_l17Nodes.j1 k y0 y1 y2 y3 y4) (spec_l17Nodes.j1 (k + 1) y0 y1 y2 y3 y4))∧(∀ y0 y1 y2 y3 y4 y5,LeO (spec_l17Nodes.l0 k y0 y1 y2 y3 y4 y5) (spec_l17Nodes.l0 (k + 1) y0 y1 y2 y3 y4 y5))
 | 0=>⟨fun _ _ _ r h=>by simp [spec_l17Nodes.f] at h,fun _ _ _ _ _ r h=>by simp [spec_l17Nodes.j0] at h,fun _ _ _ _ _ r h=>by simp [spec_l17Nodes.j1] at h,fun _ _ _ _ _ _ r h=>by simp [spec_l17Nodes.l0] at h⟩
 | k + 1=>by
  obtain ⟨ih0,ih1,ih2,ih3⟩:=spec_l17Nodes.mono_l k
  refine ⟨?_,?_,?_,?_⟩
  ·intro y0 y1 y2
   unfold spec_l17Nodes.f
   repeat' first
   | (with_reducible exact ih0 _ _ _)
   | (with_reducible exact ih1 _ _ _ _ _)
   | (with_reducible exact ih2 _ _ _ _ _)
   | (with_reducible exact ih3 _ _ _ _ _ _)
   | (with_reducible exact LeO.refl _)
   | (with_reducible exact LeO.none _)
   | (with_reducible refine LeO.ite ?_ ?_)
   | (with_reducible refine LeO.bind ?_ (fun _=>?_))
   | exact ih0 _ _ _
   | exact ih1 _ _ _ _ _
   | exact ih2 _ _ _ _ _
   | exact ih3 _ _ _ _ _ _
   | exact LeO.none _
   | refine LeO.ite ?_ ?_
   | refine LeO.bind ?_ (fun _=>?_)
  ·intro y0 y1 y2 y3 y4
   unfold spec_l17Nodes.j0
   repeat' first
   | (with_reducible exact ih0 _ _ _)
   | (with_reducible exact ih1 _ _ _ _ _)
   | (with_reducible exact ih2 _ _ _ _ _)
   | (with_reducible exact ih3 _ _ _ _ _ _)
   | (with_reducible exact LeO.refl _)
   | (with_reducible exact LeO.none _)
   | (with_reducible refine LeO.ite ?_ ?_)
   | (with_reducible refine LeO.bind ?_ (fun _=>?_))
   | exact ih0 _ _ _
   | exact ih1 _ _ _ _ _
   | exact ih2 _ _ _ _ _
   | exact ih3 _ _ _ _ _ _
   | exact LeO.none _
   | refine LeO.ite ?_ ?_
   | refine LeO.bind ?_ (fun _=>?_)
  ·intro y0 y1 y2 y3 y4
   unfold spec_l17Nodes.j1
   repeat' first
   | (with_reducible exact ih0 _ _ _)
   | (with_reducible exact ih1 _ _ _ _ _)
   | (with_reducible exact ih2 _ _ _ _ _)
   | (with_reducible exact ih3 _ _ _ _ _ _)
   | (with_reducible exact LeO.refl _)
   | (with_reducible exact LeO.none _)
   | (with_reducible refine LeO.ite ?_ ?_)
   | (with_reducible refine LeO.bind ?_ (fun _=>?_))
   | exact ih0 _ _ _
   | exact ih1 _ _ _ _ _
   | exact ih2 _ _ _ _ _
   | exact ih3 _ _ _ _ _ _
   | exact LeO.none _
   | refine LeO.ite ?_ ?_
   | refine LeO.bind ?_ (fun _=>?_)
  ·intro y0 y1 y2 y3 y4 y5
   unfold spec_l17Nodes.l0
   repeat' first
   | (with_reducible exact ih0 _ _ _)
   | (with_reducible exact ih1 _ _ _ _ _)
   | (with_reducible exact ih2 _ _ _ _ _)
   | (with_reducible exact ih3 _ _ _ _ _ _)
   | (with_reducible exact LeO.refl _)
   | (with_reducible exact LeO.none _)
   | (with_reducible refine LeO.ite ?_ ?_)
   | (with_reducible refine LeO.bind ?_ (fun _=>?_))
   | exact ih0 _ _ _
   | exact ih1 _ _ _ _ _
   | exact ih2 _ _ _ _ _
   | exact ih3 _ _ _ _ _ _
   | exact LeO.none _
   | refine LeO.ite ?_ ?_
   | refine LeO.bind ?_ (fun _=>?_)
theorem spec_l17Nodes.mono:∀ a0 a1 a2 k,LeO (spec_l17Nodes.f k a0 a1 a2) (spec_l17Nodes.f (k + 1) a0 a1 a2):=by
 intro a0 a1 a2 k
 obtain ⟨ih0,ih1,ih2,ih3⟩:=spec_l17Nodes.mono_l k
 exact ih0 a0 a1 a2
set_option maxHeartbeats 8000000 in
set_option maxRecDepth 100000 in
theorem spec_l17Nodes.calls (k:Nat):∀ (a0_0:Int) (a0_1:Int) (A0_2:Option Addr) (c0_2:Nat) (l0_2:List (S29)) (r:Int) (w:World) (hr0_2:Kd.C k29 w A0_2 l0_2.length l0_2) (hc0_2:l0_2.length ≤ c0_2) (h:spec_l17Nodes.f k a0_0 a0_1 l0_2 = some r),
  Calls Try.prog 40 #[.agg #[.int .i64 a0_0,.int .i64 a0_1,.slice A0_2 l0_2.length c0_2]] w fun e w'=>e = .returned (.int .i64 r)∧Below w.heap.size w w':=by
 induction k using Nat.strongRecOn with
 | _ k ih =>
 intro a0_0 a0_1 A0_2 c0_2 l0_2 r w hr0_2 hc0_2 h
 cases k with
 | zero=>exact absurd h (by simp [spec_l17Nodes.f])
 | succ k =>
 simp only [spec_l17Nodes.f] at h
 have hu29:=Try.underlying29
 have HR0_2:=Aside0.mk hr0_2
 have HC0_2:=Aside0.mk hc0_2
 clear hr0_2 hc0_2
 have HB:=Aside0.mk (Below.refl w.heap.size w)
 have H:(if a0_0 = 0 then (spec_l17Nodes.j0 k 0 (a0_1 == 0) a0_0 a0_1 l0_2) else (if a0_0 = 1 then ((spec_ActOk.f a0_1).bind fun t111=>(spec_l17Nodes.j0 k 1 t111 a0_0 a0_1 l0_2)) else (if a0_0 = 2 then ((spec_l6In.f a0_1 1 9).bind fun t112=>(spec_l17Nodes.j0 k 1 t112 a0_0 a0_1 l0_2)) else (if a0_0 = 3 then (spec_l17Nodes.j0 k 2 (a0_1 == 0) a0_0 a0_1 l0_2) else (if a0_0 = 4 then (spec_l17Nodes.j0 k 2 (a0_1 == 0) a0_0 a0_1 l0_2) else (some 0)))))) = some r:=h
 clear h
 have HC2:=Aside0.mk H
 clear H
 go_enter Try.func40,Try.ntmps40
 go_upto_block 0 with (first | ((with_reducible refine gate_dst (N:=1) rfl ?_);(try (refine gate_guard (by rfl) ?_;dsimp only));refine box_event ?hg (N:=1) ?hd (cs:=#[.int .i64 a0_0,.int .i64 a0_1,.slice A0_2 l0_2.length c0_2]) (t:=29) ?hr ?_;(case hd=>rfl);(case hg=>rfl);(case hr=>first | (go_simp;done) | (go_simp;rfl));intro gb110 hg w3 hbox hb;have n0_:=Aside0.mk (below_step (by repeat (first | (with_reducible first | exact HB.out | apply below_alloc | apply pw_below_drewN | apply below_drew1) | exact HB.out)) hb);have n1_:=Aside0.mk (hbox);have n2_:=Aside0.mk ((by rw [hg];exact (below_size (by repeat (first | (with_reducible first | exact HB.out | apply below_alloc | apply pw_below_drewN | apply below_drew1) | exact HB.out))):w.heap.size ≤ gb110));have n3_:=Aside0.mk ((by rw [hg];exact (below_size (by repeat (first | (with_reducible first | exact HB.out | apply below_alloc | apply pw_below_drewN | apply below_drew1) | exact HB.out))):w.heap.size ≤ gb110));clear HB;have HB:=n0_;have BK110:=n1_;have GW110:=n2_;have GE110:=n3_;clear n0_ n1_ n2_ n3_;clear hb hbox hg;have hcz4_0:w3.cell? ⟨gb110,0,none⟩ = some (.int .i64 a0_0):=(blk_cell BK110.out 0).trans rfl;have hcz4_1:w3.cell? ⟨gb110,1,none⟩ = some (.int .i64 a0_1):=(blk_cell BK110.out 1).trans rfl;have hcz4_2:w3.cell? ⟨gb110,2,none⟩ = some (.slice A0_2 l0_2.length c0_2):=(blk_cell BK110.out 2).trans rfl;have hfz4_0:=blk_frozen BK110.out 0;have hfz4_1:=blk_frozen BK110.out 1;have hfz4_2:=blk_frozen BK110.out 2))
 (try simp only [Act.put,List.setIfInBounds_toArray,List.set_cons_zero,List.set_cons_succ])
 go_cut [3,4] (fun v3 v4 wc=>∃ (kq:Nat) (x3_1:Int) (x4_1:Bool),v3 = .int .i64 x3_1∧v4 = .bool x4_1∧Aside0 (spec_l17Nodes.j0 kq x3_1 x4_1 a0_0 a0_1 l0_2 = some r)∧Aside0 (kq ≤ k)∧Aside0 (wc.heap[gb110]? = some (.cells #[.int .i64 a0_0,.int .i64 a0_1,(.slice A0_2 l0_2.length c0_2)] 29 (0,0)))∧Aside0 (Below w.heap.size w wc))
 case first =>
  have H:=HC2.out
  clear HC2
  by_cases c5:a0_0 = 0
  ·rw [if_pos c5] at H
   have c5b0:(a0_0 == 0) = true:=beq_iff_eq.mpr c5
   have c5b1:(a0_0 != 0) = false:=bne_eq_false_iff_eq.mpr c5
   clear c5
   (first | rw [c5b0] | (simp only [i64_w,i32_w];rw [c5b0]) | skip)
   have H':=Aside0.mk H
   clear H
   go_wp2
   go_meet
   case rel=>exact ⟨_,(0),((a0_1 == 0)),(by first | rfl | (simp;done) | (simp [*];done)),(by first | rfl | (simp;done) | (simp [*];done)),H',⟨by first | omega | exact Nat.le_refl _⟩,⟨by (with_reducible repeat (first | refine blk_drewN ?_ _ | refine blk_drew ?_ | refine blk_alloc ?_ _));exact BK110.out⟩,⟨by repeat (first | (with_reducible first | exact HB.out | apply below_alloc | apply pw_below_drewN | apply below_drew1 | refine below_set ?_ GE110.out) | exact HB.out)⟩⟩
  ·rw [if_neg c5] at H
   have c5b0:(a0_0 == 0) = false:=beq_eq_false_iff_ne.mpr c5
   have c5b1:(a0_0 != 0) = true:=bne_iff_ne.mpr c5
   (first | rw [c5b0] | (simp only [i64_w,i32_w];rw [c5b0]) | skip)
   by_cases c6:a0_0 = 1
   ·rw [if_pos c6] at H
    have c6b0:(a0_0 == 1) = true:=beq_iff_eq.mpr c6
    have c6b1:(a0_0 != 1) = false:=bne_eq_false_iff_eq.mpr c6
    clear c6
    replace H:=Option.bind_eq_some_iff.mp H
    obtain ⟨t111,A70,H⟩:=H
    replace H:(spec_l17Nodes.j0 k 1 t111 a0_0 a0_1 l0_2) = some r:=H
    have A7:=Aside0.mk A70
    clear A70
    have H':=Aside0.mk H
    clear H
    have hcz8_0:w3.cell? ⟨gb110,0,none⟩ = some (.int .i64 a0_0):=(blk_cell BK110.out 0).trans rfl
    have hcz8_1:w3.cell? ⟨gb110,1,none⟩ = some (.int .i64 a0_1):=(blk_cell BK110.out 1).trans rfl
    have hcz8_2:w3.cell? ⟨gb110,2,none⟩ = some (.slice A0_2 l0_2.length c0_2):=(blk_cell BK110.out 2).trans rfl
    have hfz8_0:=blk_frozen BK110.out 0
    have hfz8_1:=blk_frozen BK110.out 1
    have hfz8_2:=blk_frozen BK110.out 2
    go_wp2_with (first | ((with_reducible refine gate_callee (f:=57) rfl ?_);refine goesL_ (some 19) rfl rfl Try.func57 (by kernel_rfl) rfl #[.int .i64 a0_1] rfl (by (try simp only [List.map_toArray,List.map_cons,List.map_nil]);first | done | rfl | (simp only [List.length_drop,List.length_take];rfl)) ?_;(with_reducible refine (spec_ActOk.calls a0_1 t111 _ A7.out).mono ?_);rintro e w' ⟨rfl,⟨nd,rfl⟩⟩;refine ⟨_,rfl,?_⟩))
    go_meet
    case rel=>exact ⟨_,(1),(t111),(by first | rfl | (simp;done) | (simp [*];done)),(by first | rfl | (simp;done) | (simp [*];done)),H',⟨by first | omega | exact Nat.le_refl _⟩,⟨by (with_reducible repeat (first | refine blk_drewN ?_ _ | refine blk_drew ?_ | refine blk_alloc ?_ _));exact BK110.out⟩,⟨by repeat (first | (with_reducible first | exact HB.out | apply below_alloc | apply pw_below_drewN | apply below_drew1 | refine below_set ?_ GE110.out) | exact HB.out)⟩⟩
   ·rw [if_neg c6] at H
    have c6b0:(a0_0 == 1) = false:=beq_eq_false_iff_ne.mpr c6
    have c6b1:(a0_0 != 1) = true:=bne_iff_ne.mpr c6
    by_cases c9:a0_0 = 2
    ·rw [if_pos c9] at H
     have c9b0:(a0_0 == 2) = true:=beq_iff_eq.mpr c9
     have c9b1:(a0_0 != 2) = false:=bne_eq_false_iff_eq.mpr c9
     clear c9
     replace H:=Option.bind_eq_some_iff.mp H
     obtain ⟨t112,A100,H⟩:=H
     replace H:(spec_l17Nodes.j0 k 1 t112 a0_0 a0_1 l0_2) = some r:=H
     have A10:=Aside0.mk A100
     clear A100
     have H':=Aside0.mk H
     clear H
     have hcz11_0:w3.cell? ⟨gb110,0,none⟩ = some (.int .i64 a0_0):=(blk_cell BK110.out 0).trans rfl
     have hcz11_1:w3.cell? ⟨gb110,1,none⟩ = some (.int .i64 a0_1):=(blk_cell BK110.out 1).trans rfl
     have hcz11_2:w3.cell? ⟨gb110,2,none⟩ = some (.slice A0_2 l0_2.length c0_2):=(blk_cell BK110.out 2).trans rfl
     have hfz11_0:=blk_frozen BK110.out 0
     have hfz11_1:=blk_frozen BK110.out 1
     have hfz11_2:=blk_frozen BK110.out 2
     go_wp2_with (first | ((with_reducible refine gate_callee (f:=39) rfl ?_);refine goesL_ (some 24) rfl rfl Try.func39 (by kernel_rfl) rfl #[.int .i64 a0_1,.int .i64 1,.int .i64 9] rfl (by (try simp only [List.map_toArray,List.map_cons,List.map_nil]);first | done | rfl | (simp only [List.length_drop,List.length_take];rfl)) ?_;(with_reducible refine (spec_l6In.calls a0_1 1 9 t112 _ A10.out).mono ?_);rintro e w' ⟨rfl,⟨nd,rfl⟩⟩;refine ⟨_,rfl,?_⟩))
     go_meet
     case rel=>exact ⟨_,(1),(t112),(by first | rfl | (simp;done) | (simp [*];done)),(by first | rfl | (simp;done) | (simp [*];done)),H',⟨by first | omega | exact Nat.le_refl _⟩,⟨by (with_reducible repeat (first | refine blk_drewN ?_ _ | refine blk_drew ?_ | refine blk_alloc ?_ _));exact BK110.out⟩,⟨by repeat (first | (with_reducible first | exact HB.out | apply below_alloc | apply pw_below_drewN | apply below_drew1 | refine below_set ?_ GE110.out) | exact HB.out)⟩⟩
    ·rw [if_neg c9] at H
     have c9b0:(a0_0 == 2) = false:=beq_eq_false_iff_ne.mpr c9
     have c9b1:(a0_0 != 2) = true:=bne_iff_ne.mpr c9
     by_cases c12:a0_0 = 3
     ·rw [if_pos c12] at H
      have c12b0:(a0_0 == 3) = true:=beq_iff_eq.mpr c12
      have c12b1:(a0_0 != 3) = false:=bne_eq_false_iff_eq.mpr c12
      clear c12
      have H':=Aside0.mk H
      clear H
      go_wp2
      go_meet
      case rel=>exact ⟨_,(2),((a0_1 == 0)),(by first | rfl | (simp;done) | (simp [*];done)),(by first | rfl | (simp;done) | (simp [*];done)),H',⟨by first | omega | exact Nat.le_refl _⟩,⟨by (with_reducible repeat (first | refine blk_drewN ?_ _ | refine blk_drew ?_ | refine blk_alloc ?_ _));exact BK110.out⟩,⟨by repeat (first | (with_reducible first | exact HB.out | apply below_alloc | apply pw_below_drewN | apply below_drew1 | refine below_set ?_ GE110.out) | exact HB.out)⟩⟩
     ·rw [if_neg c12] at H
      have c12b0:(a0_0 == 3) = false:=beq_eq_false_iff_ne.mpr c12
      have c12b1:(a0_0 != 3) = true:=bne_iff_ne.mpr c12
      by_cases c13:a0_0 = 4
      ·rw [if_pos c13] at H
       have c13b0:(a0_0 == 4) = true:=beq_iff_eq.mpr c13
       have c13b1:(a0_0 != 4) = false:=bne_eq_false_iff_eq.mpr c13
       clear c13
       have H':=Aside0.mk H
       clear H
       go_wp2
       go_meet
       case rel=>exact ⟨_,(2),((a0_1 == 0)),(by first | rfl | (simp;done) | (simp [*];done)),(by first | rfl | (simp;done) | (simp [*];done)),H',⟨by first | omega | exact Nat.le_refl _⟩,⟨by (with_reducible repeat (first | refine blk_drewN ?_ _ | refine blk_drew ?_ | refine blk_alloc ?_ _));exact BK110.out⟩,⟨by repeat (first | (with_reducible first | exact HB.out | apply below_alloc | apply pw_below_drewN | apply below_drew1 | refine below_set ?_ GE110.out) | exact HB.out)⟩⟩
      ·rw [if_neg c13] at H
       have c13b0:(a0_0 == 4) = false:=beq_eq_false_iff_ne.mpr c13
       have c13b1:(a0_0 != 4) = true:=bne_iff_ne.mpr c13
       obtain rfl:=Option.some.inj H
       go_wp2
       go_ret
       exact ⟨by first | rfl | (simp [errW_none,errW_some] <;> rfl) | (simp [*,errW_none,errW_some] <;> rfl),by repeat (first | (with_reducible first | exact HB.out | apply below_alloc | apply pw_below_drewN | apply below_drew1 | refine below_set ?_ GE110.out) | exact HB.out)⟩
 case rest =>
  clear HC2
  try clear c1
  try clear p2
  try clear c3
  try clear c4
  try clear c5
  try clear c5b0
  try clear c5b1
  try clear c6
  try clear c6b0
  try clear c6b1
  try clear c9
  try clear c9b0
  try clear c9b1
  try clear c12
  try clear c12b0
  try clear c12b1
  try clear c13
  try clear c13b0
  try clear c13b1
  try clear hcz11_0
  try clear hcz11_1
  try clear hcz11_2
  try clear hcz4_0
  try clear hcz4_1
  try clear hcz4_2
  try clear hcz8_0
  try clear hcz8_1
  try clear hcz8_2
  try clear hfz11_0
  try clear hfz11_1
  try clear hfz11_2
  try clear hfz4_0
  try clear hfz4_1
  try clear hfz4_2
  try clear hfz8_0
  try clear hfz8_1
  try clear hfz8_2
  obtain ⟨kq,x3_1,x4_1,rfl,rfl,HA,HJ1,BK110,HB⟩:=hcut
  cases kq with
  | zero=>exact absurd HA.out (by simp [spec_l17Nodes.j0])
  | succ kj1 =>
   have H:=HA.out
   clear HA
   simp only [spec_l17Nodes.j0] at H
   have HC14:=Aside0.mk H
   clear H
   go_upto_region 15 with (fail)
   go_cut [36] (fun v36 wc=>∃ (kq:Nat) (x36_13:Bool),v36 = .bool x36_13∧Aside0 (spec_l17Nodes.j1 kq x3_1 x36_13 a0_0 a0_1 l0_2 = some r)∧Aside0 (kq ≤ kj1)∧Aside0 (wc.heap[gb110]? = some (.cells #[.int .i64 a0_0,.int .i64 a0_1,(.slice A0_2 l0_2.length c0_2)] 29 (0,0)))∧Aside0 (Below w.heap.size w wc))
   case first =>
    have H:=HC14.out
    clear HC14
    by_cases c15:x4_1 = true
    ·subst c15
     have H1:(spec_l17Nodes.j1 kj1 x3_1 ((l0_2.length:Int) != x3_1) a0_0 a0_1 l0_2) = some r:=by rw [if_pos rfl] at H;exact H
     clear H
     have H:=H1
     clear H1
     have H':=Aside0.mk H
     clear H
     have hcz16_0:wc.cell? ⟨gb110,0,none⟩ = some (.int .i64 a0_0):=(blk_cell BK110.out 0).trans rfl
     have hcz16_1:wc.cell? ⟨gb110,1,none⟩ = some (.int .i64 a0_1):=(blk_cell BK110.out 1).trans rfl
     have hcz16_2:wc.cell? ⟨gb110,2,none⟩ = some (.slice A0_2 l0_2.length c0_2):=(blk_cell BK110.out 2).trans rfl
     have hfz16_0:=blk_frozen BK110.out 0
     have hfz16_1:=blk_frozen BK110.out 1
     have hfz16_2:=blk_frozen BK110.out 2
     go_wp2
     go_meet
     case rel=>exact ⟨_,(((l0_2.length:Int) != x3_1)),(by first | rfl | (simp;done) | (simp [*];done)),H',⟨by have:=HJ1.out;first | omega | exact Nat.le_refl _⟩,⟨by (with_reducible repeat (first | refine blk_drewN ?_ _ | refine blk_drew ?_ | refine blk_alloc ?_ _));exact BK110.out⟩,⟨by repeat (first | (with_reducible first | exact HB.out | apply below_alloc | apply pw_below_drewN | apply below_drew1 | refine below_set ?_ GE110.out) | exact HB.out)⟩⟩
    ·replace c15:=Bool.eq_false_iff.mpr c15
     subst c15
     have H1:(spec_l17Nodes.j1 kj1 x3_1 true a0_0 a0_1 l0_2) = some r:=by rw [if_neg (show ¬ (false = true) by decide)] at H;exact H
     clear H
     have H:=H1
     clear H1
     have H':=Aside0.mk H
     clear H
     go_wp2
     go_meet
     case rel=>exact ⟨_,(true),(by first | rfl | (simp;done) | (simp [*];done)),H',⟨by have:=HJ1.out;first | omega | exact Nat.le_refl _⟩,⟨by (with_reducible repeat (first | refine blk_drewN ?_ _ | refine blk_drew ?_ | refine blk_alloc ?_ _));exact BK110.out⟩,⟨by repeat (first | (with_reducible first | exact HB.out | apply below_alloc | apply pw_below_drewN | apply below_drew1 | refine below_set ?_ GE110.out) | exact HB.out)⟩⟩
   case rest =>
    clear HC14
    try clear c1
    try clear p2
    try clear c3
    try clear c4
    try clear c5
    try clear c5b0
    try clear c5b1
    try clear c6
    try clear c6b0
    try clear c6b1
    try clear c9
    try clear c9b0
    try clear c9b1
    try clear c12
    try clear c12b0
    try clear c12b1
    try clear c13
    try clear c13b0
    try clear c13b1
    try clear c15
    try clear hcz11_0
    try clear hcz11_1
    try clear hcz11_2
    try clear hcz16_0
    try clear hcz16_1
    try clear hcz16_2
    try clear hcz4_0
    try clear hcz4_1
    try clear hcz4_2
    try clear hcz8_0
    try clear hcz8_1
    try clear hcz8_2
    try clear hfz11_0
    try clear hfz11_1
    try clear hfz11_2
    try clear hfz16_0
    try clear hfz16_1
    try clear hfz16_2
    try clear hfz4_0
    try clear hfz4_1
    try clear hfz4_2
    try clear hfz8_0
    try clear hfz8_1
    try clear hfz8_2
    try clear p2
    obtain ⟨kq,x36_13,rfl,HA,HJ13,BK110,HB⟩:=hcut
    cases kq with
    | zero=>exact absurd HA.out (by simp [spec_l17Nodes.j1])
    | succ kj13 =>
     have H:=HA.out
     clear HA
     simp only [spec_l17Nodes.j1] at H
     by_cases c17:x36_13 = true
     ·subst c17
      have H1:(some 0) = some r:=by rw [if_pos rfl] at H;exact H
      clear H
      have H:=H1
      clear H1
      obtain rfl:=Option.some.inj H
      go_wp2
      go_ret
      exact ⟨by first | rfl | (simp [errW_none,errW_some] <;> rfl) | (simp [*,errW_none,errW_some] <;> rfl),by repeat (first | (with_reducible first | exact HB.out | apply below_alloc | apply pw_below_drewN | apply below_drew1 | refine below_set ?_ GE110.out) | exact HB.out)⟩
     ·replace c17:=Bool.eq_false_iff.mpr c17
      subst c17
      have H1:(spec_l17Nodes.l0 kj13 x3_1 1 0 a0_0 a0_1 l0_2) = some r:=by rw [if_neg (show ¬ (false = true) by decide)] at H;exact H
      clear H
      have H:=H1
      clear H1
      have H':=Aside0.mk H
      clear H
      go_wp2
      go_loopg [5,6] kj13 (fun kq v5 v6 w'=>∃ (x5_3:Int) (x6_3:Int),v5 = .int .i64 x5_3∧v6 = .int .i64 x6_3∧Aside0 (spec_l17Nodes.l0 kq x3_1 x5_3 x6_3 a0_0 a0_1 l0_2 = some r)∧Aside0 (kq ≤ kj13)∧Aside0 (w'.heap[gb110]? = some (.cells #[.int .i64 a0_0,.int .i64 a0_1,(.slice A0_2 l0_2.length c0_2)] 29 (0,0)))∧Aside0 (Below w.heap.size w w'))
      case atStart=>exact ⟨(1),(0),(by first | rfl | (simp;done) | (simp [*];done)),(by first | rfl | (simp;done) | (simp [*];done)),H',⟨Nat.le_refl _⟩,⟨by (with_reducible repeat (first | refine blk_drewN ?_ _ | refine blk_drew ?_ | refine blk_alloc ?_ _));exact BK110.out⟩,⟨by repeat (first | (with_reducible first | exact HB.out | apply below_alloc | apply pw_below_drewN | apply below_drew1 | refine below_set ?_ GE110.out) | exact HB.out)⟩⟩
      case round =>
       clear H'
       try clear c1
       try clear p2
       try clear c3
       try clear c4
       try clear c5
       try clear c5b0
       try clear c5b1
       try clear c6
       try clear c6b0
       try clear c6b1
       try clear c9
       try clear c9b0
       try clear c9b1
       try clear c12
       try clear c12b0
       try clear c12b1
       try clear c13
       try clear c13b0
       try clear c13b1
       try clear c15
       try clear c17
       try clear hcz11_0
       try clear hcz11_1
       try clear hcz11_2
       try clear hcz16_0
       try clear hcz16_1
       try clear hcz16_2
       try clear hcz4_0
       try clear hcz4_1
       try clear hcz4_2
       try clear hcz8_0
       try clear hcz8_1
       try clear hcz8_2
       try clear hfz11_0
       try clear hfz11_1
       try clear hfz11_2
       try clear hfz16_0
       try clear hfz16_1
       try clear hfz16_2
       try clear hfz4_0
       try clear hfz4_1
       try clear hfz4_2
       try clear hfz8_0
       try clear hfz8_1
       try clear hfz8_2
       try clear p2
       repeat (first | clear BK110 | clear HB)
       obtain ⟨x5_3,x6_3,rfl,rfl,HA,HK3,BK110,HB⟩:=hrel
       cases gk with
       | zero=>exact absurd HA.out (by simp [spec_l17Nodes.l0])
       | succ k3 =>
        have H:=HA.out
        clear HA
        simp only [spec_l17Nodes.l0] at H
        by_cases c18:x6_3 < x3_1
        ·rw [if_pos c18] at H
         have c18b0:decide (x6_3 < x3_1) = true:=decide_eq_true c18
         clear c18
         by_cases c19:0 ≤ x6_3
         ·rw [if_pos c19] at H
          have c19b0:decide (0 ≤ x6_3) = true:=decide_eq_true c19
          clear c19
          by_cases c20:x6_3 < (l0_2.length:Int)
          ·rw [if_pos c20] at H
           have c20b0:decide (x6_3 < (l0_2.length:Int)) = true:=decide_eq_true c20
           clear c20
           replace H:=Option.bind_eq_some_iff.mp H
           obtain ⟨t114,A210,H⟩:=H
           replace H:(if t114 = 0 then (some 0) else (spec_l17Nodes.l0 k3 x3_1 (mn 1000 (wrap64 (x5_3 + t114))) (wrap64 (x6_3 + 1)) a0_0 a0_1 l0_2)) = some r:=H
           have A21:=Aside0.mk A210
           clear A210
           by_cases c22:t114 = 0
           ·rw [if_pos c22] at H
            have c22b0:(t114 == 0) = true:=beq_iff_eq.mpr c22
            have c22b1:(t114 != 0) = false:=bne_eq_false_iff_eq.mpr c22
            clear c22
            obtain rfl:=Option.some.inj H
            have hcz23_0:wr.cell? ⟨gb110,0,none⟩ = some (.int .i64 a0_0):=(blk_cell BK110.out 0).trans rfl
            have hcz23_1:wr.cell? ⟨gb110,1,none⟩ = some (.int .i64 a0_1):=(blk_cell BK110.out 1).trans rfl
            have hcz23_2:wr.cell? ⟨gb110,2,none⟩ = some (.slice A0_2 l0_2.length c0_2):=(blk_cell BK110.out 2).trans rfl
            have hfz23_0:=blk_frozen BK110.out 0
            have hfz23_1:=blk_frozen BK110.out 1
            have hfz23_2:=blk_frozen BK110.out 2
            have p113:0 ≤ (x6_3:Int):=of_decide_eq_true (by first | (with_reducible assumption) | assumption)
            have q113:x6_3 < (l0_2.length:Int):=of_decide_eq_true (by first | (with_reducible assumption) | assumption)
            obtain ⟨ad113,A113_2,c113_2,e113,hx113_0,hx113_1,hx113_2,hl113_2,hi113_2⟩:=at_T29 HR0_2.out x6_3 p113 q113
            cases e113
            replace hx113_0:=(HB.out.cell (World.block_lt_of_cell? w _ hx113_0)).trans hx113_0
            replace hx113_1:=(HB.out.cell (World.block_lt_of_cell? w _ hx113_1)).trans hx113_1
            replace hx113_2:=(HB.out.cell (World.block_lt_of_cell? w _ hx113_2)).trans hx113_2
            have HR113_2:=Aside0.mk hi113_2
            have HC113_2:=Aside0.mk hl113_2
            clear hi113_2 hl113_2
            replace p113:=eq_true p113
            replace q113:=eq_true q113
            go_wp2_with (first | ((with_reducible refine gate_callee (f:=40) rfl ?_);refine goesL_ (some 47) rfl rfl Try.func40 (by kernel_rfl) rfl #[.agg #[.int .i64 ((rd_T29 l0_2 x6_3).f0),.int .i64 ((rd_T29 l0_2 x6_3).f1),.slice A113_2 ((rd_T29 l0_2 x6_3).f2).length c113_2]] rfl (by (try simp only [List.map_toArray,List.map_cons,List.map_nil]);first | done | rfl | (simp only [List.length_drop,List.length_take];rfl)) ?_;(with_reducible refine (ih k3 (by have:=HJ1.out;have:=HJ13.out;have:=HK3.out;omega) ((rd_T29 l0_2 x6_3).f0) ((rd_T29 l0_2 x6_3).f1) _ _ ((rd_T29 l0_2 x6_3).f2) t114 _ ?side1 ?side2 A21.out).mono ?_);(case side1=>repeat (first | exact (Kd.C_below HR113_2.out HB.out) | (with_reducible refine Kd.C_alloc ?_ _) | (with_reducible refine Kd.C_drewN ?_ _) | (with_reducible refine Kd.C_drew ?_)));(case side2=>exact HC113_2.out);rintro e w24 ⟨rfl,hb⟩;refine ⟨_,rfl,?_⟩;have n0_:=Aside0.mk (blk_below (g:=gb110) (o:=.cells #[.int .i64 a0_0,.int .i64 a0_1,.slice (some ad113) l0_2.length c0_2] 29 (0,0)) (by (with_reducible repeat (first | refine blk_drewN ?_ _ | refine blk_drew ?_ | refine blk_alloc ?_ _));exact BK110.out) hb);have n1_:=Aside0.mk (below_step (by repeat (first | (with_reducible first | exact HB.out | apply below_alloc | apply pw_below_drewN | apply below_drew1 | refine below_set ?_ GE110.out) | exact HB.out)) hb);clear BK110;clear HB;have BK110:=n0_;have HB:=n1_;clear n0_ n1_;(try clear hb);(try clear hb2);(try clear hk);(try clear hi)))
            go_ret
            exact ⟨by first | rfl | (simp [errW_none,errW_some] <;> rfl) | (simp [*,errW_none,errW_some] <;> rfl),by repeat (first | (with_reducible first | exact HB.out | apply below_alloc | apply pw_below_drewN | apply below_drew1 | refine below_set ?_ GE110.out) | exact HB.out)⟩
           ·rw [if_neg c22] at H
            have c22b0:(t114 == 0) = false:=beq_eq_false_iff_ne.mpr c22
            have c22b1:(t114 != 0) = true:=bne_iff_ne.mpr c22
            obtain ⟨ji25,hji25⟩:∃ j_:Int,(mn 1000 (wrap64 (x5_3 + t114))) = j_:=⟨_,rfl⟩
            replace H:(spec_l17Nodes.l0 k3 x3_1 ji25 (wrap64 (x6_3 + 1)) a0_0 a0_1 l0_2) = some r:=by first | (rw [hji25] at H;exact H) | (simp only [hji25] at H ⊢;exact H)
            (try rw [hji25] at A21)
            have hji25_:(if (wrap64 (x5_3 + t114)) < 1000 then (wrap64 (x5_3 + t114)) else 1000) = ji25:=hji25
            have H':=Aside0.mk H
            clear H
            have hcz26_0:wr.cell? ⟨gb110,0,none⟩ = some (.int .i64 a0_0):=(blk_cell BK110.out 0).trans rfl
            have hcz26_1:wr.cell? ⟨gb110,1,none⟩ = some (.int .i64 a0_1):=(blk_cell BK110.out 1).trans rfl
            have hcz26_2:wr.cell? ⟨gb110,2,none⟩ = some (.slice A0_2 l0_2.length c0_2):=(blk_cell BK110.out 2).trans rfl
            have hfz26_0:=blk_frozen BK110.out 0
            have hfz26_1:=blk_frozen BK110.out 1
            have hfz26_2:=blk_frozen BK110.out 2
            have p113:0 ≤ (x6_3:Int):=of_decide_eq_true (by first | (with_reducible assumption) | assumption)
            have q113:x6_3 < (l0_2.length:Int):=of_decide_eq_true (by first | (with_reducible assumption) | assumption)
            obtain ⟨ad113,A113_2,c113_2,e113,hx113_0,hx113_1,hx113_2,hl113_2,hi113_2⟩:=at_T29 HR0_2.out x6_3 p113 q113
            cases e113
            replace hx113_0:=(HB.out.cell (World.block_lt_of_cell? w _ hx113_0)).trans hx113_0
            replace hx113_1:=(HB.out.cell (World.block_lt_of_cell? w _ hx113_1)).trans hx113_1
            replace hx113_2:=(HB.out.cell (World.block_lt_of_cell? w _ hx113_2)).trans hx113_2
            have HR113_2:=Aside0.mk hi113_2
            have HC113_2:=Aside0.mk hl113_2
            clear hi113_2 hl113_2
            replace p113:=eq_true p113
            replace q113:=eq_true q113
            go_wp2_with (first | ((with_reducible refine gate_callee (f:=40) rfl ?_);refine goesL_ (some 47) rfl rfl Try.func40 (by kernel_rfl) rfl #[.agg #[.int .i64 ((rd_T29 l0_2 x6_3).f0),.int .i64 ((rd_T29 l0_2 x6_3).f1),.slice A113_2 ((rd_T29 l0_2 x6_3).f2).length c113_2]] rfl (by (try simp only [List.map_toArray,List.map_cons,List.map_nil]);first | done | rfl | (simp only [List.length_drop,List.length_take];rfl)) ?_;(with_reducible refine (ih k3 (by have:=HJ1.out;have:=HJ13.out;have:=HK3.out;omega) ((rd_T29 l0_2 x6_3).f0) ((rd_T29 l0_2 x6_3).f1) _ _ ((rd_T29 l0_2 x6_3).f2) t114 _ ?side1 ?side2 A21.out).mono ?_);(case side1=>repeat (first | exact (Kd.C_below HR113_2.out HB.out) | (with_reducible refine Kd.C_alloc ?_ _) | (with_reducible refine Kd.C_drewN ?_ _) | (with_reducible refine Kd.C_drew ?_)));(case side2=>exact HC113_2.out);rintro e w27 ⟨rfl,hb⟩;refine ⟨_,rfl,?_⟩;have n0_:=Aside0.mk (blk_below (g:=gb110) (o:=.cells #[.int .i64 a0_0,.int .i64 a0_1,.slice (some ad113) l0_2.length c0_2] 29 (0,0)) (by (with_reducible repeat (first | refine blk_drewN ?_ _ | refine blk_drew ?_ | refine blk_alloc ?_ _));exact BK110.out) hb);have n1_:=Aside0.mk (below_step (by repeat (first | (with_reducible first | exact HB.out | apply below_alloc | apply pw_below_drewN | apply below_drew1 | refine below_set ?_ GE110.out) | exact HB.out)) hb);clear BK110;clear HB;have BK110:=n0_;have HB:=n1_;clear n0_ n1_;(try clear hb);(try clear hb2);(try clear hk);(try clear hi)))
            go_roundg k3
            case measure=>have:=HJ1.out;have:=HJ13.out;have:=HK3.out;omega
            case rel=>exact ⟨(ji25),(wrap64 (x6_3 + 1)),(by first | rfl | (simp;done) | (simp only [← hji25] <;> (first | rfl | simp)) | (simp [*];done)),(by first | rfl | (simp;done) | (simp [*];done)),H',⟨by have:=HJ1.out;have:=HJ13.out;have:=HK3.out;omega⟩,⟨by (with_reducible repeat (first | refine blk_drewN ?_ _ | refine blk_drew ?_ | refine blk_alloc ?_ _));exact BK110.out⟩,⟨by repeat (first | (with_reducible first | exact HB.out | apply below_alloc | apply pw_below_drewN | apply below_drew1 | refine below_set ?_ GE110.out) | exact HB.out)⟩⟩
          ·rw [if_neg c20] at H
           exact absurd H (by simp)
         ·rw [if_neg c19] at H
          exact absurd H (by simp)
        ·rw [if_neg c18] at H
         have c18b0:decide (x6_3 < x3_1) = false:=decide_eq_false c18
         clear c18
         obtain rfl:=Option.some.inj H
         go_wp2
         go_ret
         exact ⟨by first | rfl | (simp [errW_none,errW_some] <;> rfl) | (simp [*,errW_none,errW_some] <;> rfl),by repeat (first | (with_reducible first | exact HB.out | apply below_alloc | apply pw_below_drewN | apply below_drew1 | refine below_set ?_ GE110.out) | exact HB.out)⟩
def spec_ClockOk.f (k:Nat) (a0_0:Int) (a0_1:Int) (l0_2:List (S29)):Option (Bool):=(spec_l17Nodes.f k a0_0 a0_1 l0_2).bind fun t116=>((spec_l6In.f t116 1 16).bind fun t117=>(some t117))
theorem spec_ClockOk.mono:∀ a0 a1 a2 k,LeO (spec_ClockOk.f k a0 a1 a2) (spec_ClockOk.f (k + 1) a0 a1 a2):=by
 intro a0 a1 a2 k
 unfold spec_ClockOk.f
 repeat' first
   | (with_reducible exact spec_l17Nodes.mono _ _ _ _)
   | (with_reducible exact LeO.refl _)
   | (with_reducible exact LeO.none _)
   | (with_reducible refine LeO.ite ?_ ?_)
   | (with_reducible refine LeO.bind ?_ (fun _=>?_))
   | exact spec_l17Nodes.mono _ _ _ _
   | exact LeO.none _
   | refine LeO.ite ?_ ?_
   | refine LeO.bind ?_ (fun _=>?_)
set_option maxHeartbeats 8000000 in
set_option maxRecDepth 100000 in
theorem spec_ClockOk.calls (k:Nat) (a0_0:Int) (a0_1:Int) (A0_2:Option Addr) (c0_2:Nat) (l0_2:List (S29)) (r:Bool) (w:World) (hr0_2:Kd.C k29 w A0_2 l0_2.length l0_2) (hc0_2:l0_2.length ≤ c0_2) (h:spec_ClockOk.f k a0_0 a0_1 l0_2 = some r) :
  Calls Try.prog 14 #[.agg #[.int .i64 a0_0,.int .i64 a0_1,.slice A0_2 l0_2.length c0_2]] w fun e w'=>e = .returned (.bool r)∧Below w.heap.size w w':=by
 have hu29:=Try.underlying29
 have HR0_2:=Aside0.mk hr0_2
 have HC0_2:=Aside0.mk hc0_2
 clear hr0_2 hc0_2
 have HB:=Aside0.mk (Below.refl w.heap.size w)
 have H:((spec_l17Nodes.f k a0_0 a0_1 l0_2).bind fun t116=>((spec_l6In.f t116 1 16).bind fun t117=>(some t117))) = some r:=h
 clear h
 replace H:=Option.bind_eq_some_iff.mp H
 obtain ⟨t116,A20,H⟩:=H
 replace H:((spec_l6In.f t116 1 16).bind fun t117=>(some t117)) = some r:=H
 have A2:=Aside0.mk A20
 clear A20
 replace H:=Option.bind_eq_some_iff.mp H
 obtain ⟨t117,A30,H⟩:=H
 replace H:(some t117) = some r:=H
 have A3:=Aside0.mk A30
 clear A30
 obtain rfl:=Option.some.inj H
 go_enter Try.func14,Try.ntmps14
 go_wp2_with (first | ((with_reducible refine gate_dst (N:=1) rfl ?_);refine box_event ?hg (N:=1) ?hd (cs:=#[.int .i64 a0_0,.int .i64 a0_1,.slice A0_2 l0_2.length c0_2]) (t:=29) ?hr ?_;(case hd=>rfl);(case hg=>rfl);(case hr=>first | (go_simp;done) | (go_simp;rfl));intro gb115 hg w4 hbox hb;have n0_:=Aside0.mk (below_step (by repeat (first | (with_reducible first | exact HB.out | apply below_alloc | apply pw_below_drewN | apply below_drew1) | exact HB.out)) hb);have n1_:=Aside0.mk (hbox);have n2_:=Aside0.mk ((by rw [hg];exact (below_size (by repeat (first | (with_reducible first | exact HB.out | apply below_alloc | apply pw_below_drewN | apply below_drew1) | exact HB.out))):w.heap.size ≤ gb115));have n3_:=Aside0.mk ((by rw [hg];exact (below_size (by repeat (first | (with_reducible first | exact HB.out | apply below_alloc | apply pw_below_drewN | apply below_drew1) | exact HB.out))):w.heap.size ≤ gb115));clear HB;have HB:=n0_;have BK115:=n1_;have GW115:=n2_;have GE115:=n3_;clear n0_ n1_ n2_ n3_;clear hb hbox hg;have hcz5_0:w4.cell? ⟨gb115,0,none⟩ = some (.int .i64 a0_0):=(blk_cell BK115.out 0).trans rfl;have hcz5_1:w4.cell? ⟨gb115,1,none⟩ = some (.int .i64 a0_1):=(blk_cell BK115.out 1).trans rfl;have hcz5_2:w4.cell? ⟨gb115,2,none⟩ = some (.slice A0_2 l0_2.length c0_2):=(blk_cell BK115.out 2).trans rfl;have hfz5_0:=blk_frozen BK115.out 0;have hfz5_1:=blk_frozen BK115.out 1;have hfz5_2:=blk_frozen BK115.out 2) | ((with_reducible refine gate_callee (f:=40) rfl ?_);refine goesL_ (some 4) rfl rfl Try.func40 (by kernel_rfl) rfl #[.agg #[.int .i64 a0_0,.int .i64 a0_1,.slice A0_2 l0_2.length c0_2]] rfl (by (try simp only [List.map_toArray,List.map_cons,List.map_nil]);first | done | rfl | (simp only [List.length_drop,List.length_take];rfl)) ?_;(with_reducible refine (spec_l17Nodes.calls k a0_0 a0_1 _ _ l0_2 t116 _ ?side1 ?side2 A2.out).mono ?_);(case side1=>repeat (first | exact (Kd.C_below HR0_2.out HB.out) | (with_reducible refine Kd.C_alloc ?_ _) | (with_reducible refine Kd.C_drewN ?_ _) | (with_reducible refine Kd.C_drew ?_)));(case side2=>exact HC0_2.out);rintro e w6 ⟨rfl,hb⟩;refine ⟨_,rfl,?_⟩;have n0_:=Aside0.mk (blk_below (g:=gb115) (o:=.cells #[.int .i64 a0_0,.int .i64 a0_1,.slice A0_2 l0_2.length c0_2] 29 (0,0)) (by (with_reducible repeat (first | refine blk_drewN ?_ _ | refine blk_drew ?_ | refine blk_alloc ?_ _));exact BK115.out) hb);have n1_:=Aside0.mk (below_step (by repeat (first | (with_reducible first | exact HB.out | apply below_alloc | apply pw_below_drewN | apply below_drew1 | refine below_set ?_ GE115.out) | exact HB.out)) hb);clear BK115;clear HB;have BK115:=n0_;have HB:=n1_;clear n0_ n1_;(try clear hb);(try clear hb2);(try clear hk);(try clear hi)) | ((with_reducible refine gate_callee (f:=39) rfl ?_);refine goesL_ (some 5) rfl rfl Try.func39 (by kernel_rfl) rfl #[.int .i64 t116,.int .i64 1,.int .i64 16] rfl (by (try simp only [List.map_toArray,List.map_cons,List.map_nil]);first | done | rfl | (simp only [List.length_drop,List.length_take];rfl)) ?_;(with_reducible refine (spec_l6In.calls t116 1 16 t117 _ A3.out).mono ?_);rintro e w' ⟨rfl,⟨nd,rfl⟩⟩;refine ⟨_,rfl,?_⟩))
 go_ret
 exact ⟨by first | rfl | (simp [errW_none,errW_some] <;> rfl) | (simp [*,errW_none,errW_some] <;> rfl),by repeat (first | (with_reducible first | exact HB.out | apply below_alloc | apply pw_below_drewN | apply below_drew1 | refine below_set ?_ GE115.out) | exact HB.out)⟩
mutual
def impl_clockNodes.l0:Nat → Int → Int → List (S29) → Int → Int → Option (Int)
 | 0,_,_,_,_,_=>none
 | k + 1,x1,x5,x9,x10,x11=>if x11 < x10 then (if 0 ≤ x11 then (if x11 < (x9.length:Int) then (if x5 > x1 then (some x5) else ((impl_clockNodes.f k ((rd_T29 x9 x11).f0) ((rd_T29 x9 x11).f1) ((rd_T29 x9 x11).f2) (wrap64 (x1 - x5))).bind fun t153=>(impl_clockNodes.l0 k x1 (wrap64 (x5 + t153)) x9 x10 (wrap64 (x11 + 1))))) else (none)) else (none)) else (some x5)
def impl_clockNodes.f:Nat → Int → Int → List (S29) → Int → Option (Int)
 | 0,_,_,_,_=>none
 | k + 1,a0_0,a0_1,l0_2,a1=>impl_clockNodes.l0 k a1 1 l0_2 (l0_2.length:Int) 0
end
theorem impl_clockNodes.mono_l:∀ k,(∀ y0 y1 y2 y3,LeO (impl_clockNodes.f k y0 y1 y2 y3) (impl_clockNodes.f (k + 1) y0 y1 y2 y3))∧(∀ y0 y1 y2 y3 y4,LeO (impl_clockNodes.l0 k y0 y1 y2 y3 y4) (impl_clockNodes.l0 (k + 1) y0 y1 y2 y3 y4))
 | 0=>⟨fun _ _ _ _ r h=>by simp [impl_clockNodes.f] at h,fun _ _ _ _ _ r h=>by simp [impl_clockNodes.l0] at h⟩
 | k + 1=>by
  obtain ⟨ih0,ih1⟩:=impl_clockNodes.mono_l k
  refine ⟨?_,?_⟩
  ·intro y0 y1 y2 y3
   unfold impl_clockNodes.f
   repeat' first
   | (with_reducible exact ih0 _ _ _ _)
   | (with_reducible exact ih1 _ _ _ _ _)
   | (with_reducible exact LeO.refl _)
   | (with_reducible exact LeO.none _)
   | (with_reducible refine LeO.ite ?_ ?_)
   | (with_reducible refine LeO.bind ?_ (fun _=>?_))
   | exact ih0 _ _ _ _
   | exact ih1 _ _ _ _ _
   | exact LeO.none _
   | refine LeO.ite ?_ ?_
   | refine LeO.bind ?_ (fun _=>?_)
  ·intro y0 y1 y2 y3 y4
   unfold impl_clockNodes.l0
   repeat' first
   | (with_reducible exact ih0 _ _ _ _)
   | (with_reducible exact ih1 _ _ _ _ _)
   | (with_reducible exact LeO.refl _)
   | (with_reducible exact LeO.none _)
   | (with_reducible refine LeO.ite ?_ ?_)
   | (with_reducible refine LeO.bind ?_ (fun _=>?_))
   | exact ih0 _ _ _ _
   | exact ih1 _ _ _ _ _
   | exact LeO.none _
   | refine LeO.ite ?_ ?_
   | refine LeO.bind ?_ (fun _=>?_)
theorem impl_clockNodes.mono:∀ a0 a1 a2 a3 k,LeO (impl_clockNodes.f k a0 a1 a2 a3) (impl_clockNodes.f (k + 1) a0 a1 a2 a3):=by
 intro a0 a1 a2 a3 k
 obtain ⟨ih0,ih1⟩:=impl_clockNodes.mono_l k
 exact ih0 a0 a1 a2 a3
set_option maxHeartbeats 8000000 in
set_option maxRecDepth 100000 in
theorem impl_clockNodes.calls (k:Nat):∀ (a0_0:Int) (a0_1:Int) (A0_2:Option Addr) (c0_2:Nat) (l0_2:List (S29)) (a1:Int) (r:Int) (w:World) (hr0_2:Kd.C k29 w A0_2 l0_2.length l0_2) (hc0_2:l0_2.length ≤ c0_2) (h:impl_clockNodes.f k a0_0 a0_1 l0_2 a1 = some r),
  Calls Try.prog 42 #[.agg #[.int .i64 a0_0,.int .i64 a0_1,.slice A0_2 l0_2.length c0_2],.int .i64 a1] w fun e w'=>e = .returned (.int .i64 r)∧Below w.heap.size w w':=by
 induction k using Nat.strongRecOn with
 | _ k ih =>
 intro a0_0 a0_1 A0_2 c0_2 l0_2 a1 r w hr0_2 hc0_2 h
 cases k with
 | zero=>exact absurd h (by simp [impl_clockNodes.f])
 | succ k =>
 simp only [impl_clockNodes.f] at h
 have hu29:=Try.underlying29
 have HR0_2:=Aside0.mk hr0_2
 have HC0_2:=Aside0.mk hc0_2
 clear hr0_2 hc0_2
 have HB:=Aside0.mk (Below.refl w.heap.size w)
 have H:(impl_clockNodes.l0 k a1 1 l0_2 (l0_2.length:Int) 0) = some r:=h
 clear h
 have H':=Aside0.mk H
 clear H
 go_enter Try.func42,Try.ntmps42
 go_wp2_with (first | ((with_reducible refine gate_dst (N:=2) rfl ?_);refine box_event ?hg (N:=2) ?hd (cs:=#[.int .i64 a0_0,.int .i64 a0_1,.slice A0_2 l0_2.length c0_2]) (t:=29) ?hr ?_;(case hd=>rfl);(case hg=>rfl);(case hr=>first | (go_simp;done) | (go_simp;rfl));intro gb150 hg w3 hbox hb;have n0_:=Aside0.mk (below_step (by repeat (first | (with_reducible first | exact HB.out | apply below_alloc | apply pw_below_drewN | apply below_drew1) | exact HB.out)) hb);have n1_:=Aside0.mk (hbox);have n2_:=Aside0.mk ((by rw [hg];exact (below_size (by repeat (first | (with_reducible first | exact HB.out | apply below_alloc | apply pw_below_drewN | apply below_drew1) | exact HB.out))):w.heap.size ≤ gb150));have n3_:=Aside0.mk ((by rw [hg];exact (below_size (by repeat (first | (with_reducible first | exact HB.out | apply below_alloc | apply pw_below_drewN | apply below_drew1) | exact HB.out))):w.heap.size ≤ gb150));clear HB;have HB:=n0_;have BK150:=n1_;have GW150:=n2_;have GE150:=n3_;clear n0_ n1_ n2_ n3_;clear hb hbox hg;have hcz4_0:w3.cell? ⟨gb150,0,none⟩ = some (.int .i64 a0_0):=(blk_cell BK150.out 0).trans rfl;have hcz4_1:w3.cell? ⟨gb150,1,none⟩ = some (.int .i64 a0_1):=(blk_cell BK150.out 1).trans rfl;have hcz4_2:w3.cell? ⟨gb150,2,none⟩ = some (.slice A0_2 l0_2.length c0_2):=(blk_cell BK150.out 2).trans rfl;have hfz4_0:=blk_frozen BK150.out 0;have hfz4_1:=blk_frozen BK150.out 1;have hfz4_2:=blk_frozen BK150.out 2))
 go_loopg [5,11] k (fun kq v5 v11 w'=>∃ (x5_1:Int) (x11_1:Int),v5 = .int .i64 x5_1∧v11 = .int .i64 x11_1∧Aside0 (impl_clockNodes.l0 kq a1 x5_1 l0_2 (l0_2.length:Int) x11_1 = some r)∧Aside0 (kq ≤ k)∧Aside0 (w'.heap[gb150]? = some (.cells #[.int .i64 a0_0,.int .i64 a0_1,(.slice A0_2 l0_2.length c0_2)] 29 (0,0)))∧Aside0 (Below w.heap.size w w'))
 case atStart=>exact ⟨(1),(0),(by first | rfl | (simp;done) | (simp [*];done)),(by first | rfl | (simp;done) | (simp [*];done)),H',⟨Nat.le_refl _⟩,⟨by (with_reducible repeat (first | refine blk_drewN ?_ _ | refine blk_drew ?_ | refine blk_alloc ?_ _));exact BK150.out⟩,⟨by repeat (first | (with_reducible first | exact HB.out | apply below_alloc | apply pw_below_drewN | apply below_drew1 | refine below_set ?_ GE150.out) | exact HB.out)⟩⟩
 case round =>
  clear H'
  try clear p2
  try clear c4
  try clear hcz4_0
  try clear hcz4_1
  try clear hcz4_2
  try clear hfz4_0
  try clear hfz4_1
  try clear hfz4_2
  repeat (first | clear BK150 | clear HB)
  obtain ⟨x5_1,x11_1,rfl,rfl,HA,HK1,BK150,HB⟩:=hrel
  cases gk with
  | zero=>exact absurd HA.out (by simp [impl_clockNodes.l0])
  | succ k1 =>
   have H:=HA.out
   clear HA
   simp only [impl_clockNodes.l0] at H
   by_cases c5:x11_1 < (l0_2.length:Int)
   ·rw [if_pos c5] at H
    have c5b0:decide (x11_1 < (l0_2.length:Int)) = true:=decide_eq_true c5
    clear c5
    by_cases c6:0 ≤ x11_1
    ·rw [if_pos c6] at H
     have c6b0:decide (0 ≤ x11_1) = true:=decide_eq_true c6
     clear c6
     by_cases c7:x11_1 < (l0_2.length:Int)
     ·rw [if_pos c7] at H
      have c7b0:decide (x11_1 < (l0_2.length:Int)) = true:=decide_eq_true c7
      clear c7
      by_cases c8:x5_1 > a1
      ·rw [if_pos c8] at H
       have c8b0:decide (a1 < x5_1) = true:=decide_eq_true c8
       clear c8
       obtain rfl:=Option.some.inj H
       have p151:0 ≤ (x11_1:Int):=of_decide_eq_true (by first | (with_reducible assumption) | assumption)
       have q151:x11_1 < (l0_2.length:Int):=of_decide_eq_true (by first | (with_reducible assumption) | assumption)
       obtain ⟨ad151,A151_2,c151_2,e151,hx151_0,hx151_1,hx151_2,hl151_2,hi151_2⟩:=at_T29 HR0_2.out x11_1 p151 q151
       cases e151
       replace hx151_0:=(HB.out.cell (World.block_lt_of_cell? w _ hx151_0)).trans hx151_0
       replace hx151_1:=(HB.out.cell (World.block_lt_of_cell? w _ hx151_1)).trans hx151_1
       replace hx151_2:=(HB.out.cell (World.block_lt_of_cell? w _ hx151_2)).trans hx151_2
       have HR151_2:=Aside0.mk hi151_2
       have HC151_2:=Aside0.mk hl151_2
       clear hi151_2 hl151_2
       replace p151:=eq_true p151
       replace q151:=eq_true q151
       go_wp2_with (first | ((with_reducible refine gate_dst (N:=7) rfl ?_);refine box_event ?hg (N:=7) ?hd (cs:=#[.int .i64 0,.int .i64 0,.slice none 0 0]) (t:=29) ?hr ?_;(case hd=>rfl);(case hg=>rfl);(case hr=>first | (go_simp;done) | (go_simp;rfl));intro gb152 hg w9 hbox hb;have n0_:=Aside0.mk (blk_below (g:=gb150) (o:=.cells #[.int .i64 a0_0,.int .i64 a0_1,.slice (some ad151) l0_2.length c0_2] 29 (0,0)) (by (with_reducible repeat (first | refine blk_drewN ?_ _ | refine blk_drew ?_ | refine blk_alloc ?_ _));exact BK150.out) hb);have n1_:=Aside0.mk (below_step (by repeat (first | (with_reducible first | exact HB.out | apply below_alloc | apply pw_below_drewN | apply below_drew1 | refine below_set ?_ GE150.out) | exact HB.out)) hb);have n2_:=Aside0.mk (hbox);have n3_:=Aside0.mk ((by rw [hg];exact (below_size (by repeat (first | (with_reducible first | exact HB.out | apply below_alloc | apply pw_below_drewN | apply below_drew1 | refine below_set ?_ GE150.out) | exact HB.out))):w.heap.size ≤ gb152));have n4_:=Aside0.mk ((by rw [hg];exact (below_size (by repeat (first | (with_reducible first | exact HB.out | apply below_alloc | apply pw_below_drewN | apply below_drew1 | refine below_set ?_ GE150.out) | exact HB.out))):w.heap.size ≤ gb152));have n5_:=Aside0.mk ((by rw [hg];exact Nat.ne_of_lt (blk_lt (g:=gb150) (o:=.cells #[.int .i64 a0_0,.int .i64 a0_1,.slice (some ad151) l0_2.length c0_2] 29 (0,0)) (by (with_reducible repeat (first | refine blk_drewN ?_ _ | refine blk_drew ?_ | refine blk_alloc ?_ _));exact BK150.out)):gb150 ≠ gb152));have n6_:=Aside0.mk ((by rw [hg];exact Nat.ne_of_gt (blk_lt (g:=gb150) (o:=.cells #[.int .i64 a0_0,.int .i64 a0_1,.slice (some ad151) l0_2.length c0_2] 29 (0,0)) (by (with_reducible repeat (first | refine blk_drewN ?_ _ | refine blk_drew ?_ | refine blk_alloc ?_ _));exact BK150.out)):gb152 ≠ gb150));clear BK150;clear HB;have BK150:=n0_;have HB:=n1_;have BK152:=n2_;have GW152:=n3_;have GE152:=n4_;have NB150_152:=n5_;have NB152_150:=n6_;clear n0_ n1_ n2_ n3_ n4_ n5_ n6_;clear hb hbox hg;have hnb10:=NB152_150.out;have hnc10:=NB150_152.out;have hcz11_0:w9.cell? ⟨gb152,0,none⟩ = some (.int .i64 0):=(blk_cell BK152.out 0).trans rfl;have hcz11_1:w9.cell? ⟨gb152,1,none⟩ = some (.int .i64 0):=(blk_cell BK152.out 1).trans rfl;have hcz11_2:w9.cell? ⟨gb152,2,none⟩ = some (.slice none 0 0):=(blk_cell BK152.out 2).trans rfl;have hfz11_0:=blk_frozen BK152.out 0;have hfz11_1:=blk_frozen BK152.out 1;have hfz11_2:=blk_frozen BK152.out 2))
       go_ret
       exact ⟨by first | rfl | (simp [errW_none,errW_some] <;> rfl) | (simp [*,errW_none,errW_some] <;> rfl),by repeat (first | (with_reducible first | exact HB.out | apply below_alloc | apply pw_below_drewN | apply below_drew1 | refine below_set ?_ GE150.out | refine below_set ?_ GE152.out) | exact HB.out)⟩
      ·rw [if_neg c8] at H
       have c8b0:decide (a1 < x5_1) = false:=decide_eq_false c8
       clear c8
       replace H:=Option.bind_eq_some_iff.mp H
       obtain ⟨t153,A120,H⟩:=H
       replace H:(impl_clockNodes.l0 k1 a1 (wrap64 (x5_1 + t153)) l0_2 (l0_2.length:Int) (wrap64 (x11_1 + 1))) = some r:=H
       have A12:=Aside0.mk A120
       clear A120
       have H':=Aside0.mk H
       clear H
       have p151:0 ≤ (x11_1:Int):=of_decide_eq_true (by first | (with_reducible assumption) | assumption)
       have q151:x11_1 < (l0_2.length:Int):=of_decide_eq_true (by first | (with_reducible assumption) | assumption)
       obtain ⟨ad151,A151_2,c151_2,e151,hx151_0,hx151_1,hx151_2,hl151_2,hi151_2⟩:=at_T29 HR0_2.out x11_1 p151 q151
       cases e151
       replace hx151_0:=(HB.out.cell (World.block_lt_of_cell? w _ hx151_0)).trans hx151_0
       replace hx151_1:=(HB.out.cell (World.block_lt_of_cell? w _ hx151_1)).trans hx151_1
       replace hx151_2:=(HB.out.cell (World.block_lt_of_cell? w _ hx151_2)).trans hx151_2
       have HR151_2:=Aside0.mk hi151_2
       have HC151_2:=Aside0.mk hl151_2
       clear hi151_2 hl151_2
       replace p151:=eq_true p151
       replace q151:=eq_true q151
       go_wp2_with (first | ((with_reducible refine gate_dst (N:=7) rfl ?_);refine box_event ?hg (N:=7) ?hd (cs:=#[.int .i64 0,.int .i64 0,.slice none 0 0]) (t:=29) ?hr ?_;(case hd=>rfl);(case hg=>rfl);(case hr=>first | (go_simp;done) | (go_simp;rfl));intro gb152 hg w13 hbox hb;have n0_:=Aside0.mk (blk_below (g:=gb150) (o:=.cells #[.int .i64 a0_0,.int .i64 a0_1,.slice (some ad151) l0_2.length c0_2] 29 (0,0)) (by (with_reducible repeat (first | refine blk_drewN ?_ _ | refine blk_drew ?_ | refine blk_alloc ?_ _));exact BK150.out) hb);have n1_:=Aside0.mk (below_step (by repeat (first | (with_reducible first | exact HB.out | apply below_alloc | apply pw_below_drewN | apply below_drew1 | refine below_set ?_ GE150.out) | exact HB.out)) hb);have n2_:=Aside0.mk (hbox);have n3_:=Aside0.mk ((by rw [hg];exact (below_size (by repeat (first | (with_reducible first | exact HB.out | apply below_alloc | apply pw_below_drewN | apply below_drew1 | refine below_set ?_ GE150.out) | exact HB.out))):w.heap.size ≤ gb152));have n4_:=Aside0.mk ((by rw [hg];exact (below_size (by repeat (first | (with_reducible first | exact HB.out | apply below_alloc | apply pw_below_drewN | apply below_drew1 | refine below_set ?_ GE150.out) | exact HB.out))):w.heap.size ≤ gb152));have n5_:=Aside0.mk ((by rw [hg];exact Nat.ne_of_lt (blk_lt (g:=gb150) (o:=.cells #[.int .i64 a0_0,.int .i64 a0_1,.slice (some ad151) l0_2.length c0_2] 29 (0,0)) (by (with_reducible repeat (first | refine blk_drewN ?_ _ | refine blk_drew ?_ | refine blk_alloc ?_ _));exact BK150.out)):gb150 ≠ gb152));have n6_:=Aside0.mk ((by rw [hg];exact Nat.ne_of_gt (blk_lt (g:=gb150) (o:=.cells #[.int .i64 a0_0,.int .i64 a0_1,.slice (some ad151) l0_2.length c0_2] 29 (0,0)) (by (with_reducible repeat (first | refine blk_drewN ?_ _ | refine blk_drew ?_ | refine blk_alloc ?_ _));exact BK150.out)):gb152 ≠ gb150));clear BK150;clear HB;have BK150:=n0_;have HB:=n1_;have BK152:=n2_;have GW152:=n3_;have GE152:=n4_;have NB150_152:=n5_;have NB152_150:=n6_;clear n0_ n1_ n2_ n3_ n4_ n5_ n6_;clear hb hbox hg;have hnb14:=NB152_150.out;have hnc14:=NB150_152.out;have hcz15_0:w13.cell? ⟨gb152,0,none⟩ = some (.int .i64 0):=(blk_cell BK152.out 0).trans rfl;have hcz15_1:w13.cell? ⟨gb152,1,none⟩ = some (.int .i64 0):=(blk_cell BK152.out 1).trans rfl;have hcz15_2:w13.cell? ⟨gb152,2,none⟩ = some (.slice none 0 0):=(blk_cell BK152.out 2).trans rfl;have hfz15_0:=blk_frozen BK152.out 0;have hfz15_1:=blk_frozen BK152.out 1;have hfz15_2:=blk_frozen BK152.out 2) | ((with_reducible refine gate_callee (f:=42) rfl ?_);refine goesL_ (some 24) rfl rfl Try.func42 (by kernel_rfl) rfl #[.agg #[.int .i64 ((rd_T29 l0_2 x11_1).f0),.int .i64 ((rd_T29 l0_2 x11_1).f1),.slice A151_2 ((rd_T29 l0_2 x11_1).f2).length c151_2],.int .i64 (wrap64 (a1 - x5_1))] rfl (by (try simp only [List.map_toArray,List.map_cons,List.map_nil]);first | done | rfl | (simp only [List.length_drop,List.length_take];rfl)) ?_;(with_reducible refine (ih k1 (by have:=HK1.out;omega) ((rd_T29 l0_2 x11_1).f0) ((rd_T29 l0_2 x11_1).f1) _ _ ((rd_T29 l0_2 x11_1).f2) (wrap64 (a1 - x5_1)) t153 _ ?side1 ?side2 A12.out).mono ?_);(case side1=>exact Kd.C_below HR151_2.out (by repeat (first | (with_reducible first | exact HB.out | apply below_alloc | apply pw_below_drewN | apply below_drew1 | refine below_set ?_ GE150.out | refine below_set ?_ GE152.out) | exact HB.out)));(case side2=>exact HC151_2.out);rintro e w16 ⟨rfl,hb⟩;refine ⟨_,rfl,?_⟩;have n0_:=Aside0.mk (blk_below (g:=gb150) (o:=.cells #[.int .i64 a0_0,.int .i64 a0_1,.slice (some ad151) l0_2.length c0_2] 29 (0,0)) (by (with_reducible repeat (first | refine blk_drewN ?_ _ | refine blk_drew ?_ | refine blk_alloc ?_ _));refine blk_far ?_ NB150_152.out _;(with_reducible repeat (first | refine blk_drewN ?_ _ | refine blk_drew ?_ | refine blk_alloc ?_ _));refine blk_far ?_ NB150_152.out _;(with_reducible repeat (first | refine blk_drewN ?_ _ | refine blk_drew ?_ | refine blk_alloc ?_ _));refine blk_far ?_ NB150_152.out _;(with_reducible repeat (first | refine blk_drewN ?_ _ | refine blk_drew ?_ | refine blk_alloc ?_ _));exact BK150.out) hb);have n1_:=Aside0.mk (blk_below (g:=gb152) (o:=.cells #[.int .i64 ((rd_T29 l0_2 x11_1).f0),.int .i64 ((rd_T29 l0_2 x11_1).f1),.slice A151_2 ((rd_T29 l0_2 x11_1).f2).length c151_2] 29 (0,0)) (by (with_reducible repeat (first | refine blk_drewN ?_ _ | refine blk_drew ?_ | refine blk_alloc ?_ _));refine blk_put (cs:=#[.int .i64 ((rd_T29 l0_2 x11_1).f0),.int .i64 ((rd_T29 l0_2 x11_1).f1),.slice none 0 0]) ?_ 2 _ rfl;(with_reducible repeat (first | refine blk_drewN ?_ _ | refine blk_drew ?_ | refine blk_alloc ?_ _));refine blk_put (cs:=#[.int .i64 ((rd_T29 l0_2 x11_1).f0),.int .i64 0,.slice none 0 0]) ?_ 1 _ rfl;(with_reducible repeat (first | refine blk_drewN ?_ _ | refine blk_drew ?_ | refine blk_alloc ?_ _));refine blk_put (cs:=#[.int .i64 0,.int .i64 0,.slice none 0 0]) ?_ 0 _ rfl;(with_reducible repeat (first | refine blk_drewN ?_ _ | refine blk_drew ?_ | refine blk_alloc ?_ _));exact BK152.out) hb);have n2_:=Aside0.mk (below_step (by repeat (first | (with_reducible first | exact HB.out | apply below_alloc | apply pw_below_drewN | apply below_drew1 | refine below_set ?_ GE150.out | refine below_set ?_ GE152.out) | exact HB.out)) hb);clear BK150;clear BK152;clear HB;have BK150:=n0_;have BK152:=n1_;have HB:=n2_;clear n0_ n1_ n2_;(try clear hb);(try clear hb2);(try clear hk);(try clear hi)))
       go_roundg k1
       case measure=>have:=HK1.out;omega
       case rel=>exact ⟨(wrap64 (x5_1 + t153)),(wrap64 (x11_1 + 1)),(by first | rfl | (simp;done) | (simp [*];done)),(by first | rfl | (simp;done) | (simp [*];done)),H',⟨by have:=HK1.out;omega⟩,⟨by (with_reducible repeat (first | refine blk_drewN ?_ _ | refine blk_drew ?_ | refine blk_alloc ?_ _));exact BK150.out⟩,⟨by repeat (first | (with_reducible first | exact HB.out | apply below_alloc | apply pw_below_drewN | apply below_drew1 | refine below_set ?_ GE150.out | refine below_set ?_ GE152.out) | exact HB.out)⟩⟩
     ·rw [if_neg c7] at H
      exact absurd H (by simp)
    ·rw [if_neg c6] at H
     exact absurd H (by simp)
   ·rw [if_neg c5] at H
    have c5b0:decide (x11_1 < (l0_2.length:Int)) = false:=decide_eq_false c5
    clear c5
    obtain rfl:=Option.some.inj H
    go_wp2
    go_ret
    exact ⟨by first | rfl | (simp [errW_none,errW_some] <;> rfl) | (simp [*,errW_none,errW_some] <;> rfl),by repeat (first | (with_reducible first | exact HB.out | apply below_alloc | apply pw_below_drewN | apply below_drew1 | refine below_set ?_ GE150.out) | exact HB.out)⟩
def impl_ActOk.f (a0:Int):Option (Bool):=if a0 ≥ (-4) then (some (decide (a0 ≤ 4))) else (some false)
set_option maxHeartbeats 8000000 in
set_option maxRecDepth 100000 in
theorem impl_ActOk.calls (a0:Int) (r:Bool) (w:World) (h:impl_ActOk.f a0 = some r) :
  Calls Try.prog 58 #[.int .i64 a0] w fun e w'=>e = .returned (.bool r)∧Drawn0 w w':=by
 have H:(if a0 ≥ (-4) then (some (decide (a0 ≤ 4))) else (some false)) = some r:=h
 clear h
 by_cases c2:a0 ≥ (-4)
 ·rw [if_pos c2] at H
  have c2b0:decide ((-4) ≤ a0) = true:=decide_eq_true c2
  clear c2
  obtain rfl:=Option.some.inj H
  go_enter Try.func58,Try.ntmps58
  go_wp2
  go_ret
  exact ⟨by first | rfl | (simp;done) | (simp [*];done),by repeat (first | exact Drawn0.refl _ | apply Drawn0.step)⟩
 ·rw [if_neg c2] at H
  have c2b0:decide ((-4) ≤ a0) = false:=decide_eq_false c2
  clear c2
  obtain rfl:=Option.some.inj H
  go_enter Try.func58,Try.ntmps58
  go_wp2
  go_ret
  exact ⟨by first | rfl | (simp;done) | (simp [*];done),by repeat (first | exact Drawn0.refl _ | apply Drawn0.step)⟩
def impl_beside.f (a0_0:Int) (a0_1:Int) (l0_2:List (S29)) (a1_0:Int) (a1_1:Int) (l1_2:List (S29)):Option (Int × Int × (List (S29))):=some (4,0,(([(⟨a0_0,a0_1,l0_2⟩:S29),(⟨a1_0,a1_1,l1_2⟩:S29)]:List (S29))))
set_option maxHeartbeats 8000000 in
set_option maxRecDepth 100000 in
theorem impl_beside.calls (a0_0:Int) (a0_1:Int) (P0_2_:Nat → Prop) (A0_2:Option Addr) (c0_2:Nat) (l0_2:List (S29)) (a1_0:Int) (a1_1:Int) (P1_2_:Nat → Prop) (A1_2:Option Addr) (c1_2:Nat) (l1_2:List (S29)) (r1:Int) (r2:Int) (r3:List (S29)) (w:World) (hs0_2:Kd.V k29 29 w w.heap.size (fun k_=>P0_2_ k_) (.slice A0_2 l0_2.length c0_2) l0_2) (hs1_2:Kd.V k29 29 w w.heap.size (fun k_=>P1_2_ k_) (.slice A1_2 l1_2.length c1_2) l1_2) (h:impl_beside.f a0_0 a0_1 l0_2 a1_0 a1_1 l1_2 = some (r1,r2,r3)) :
  Calls Try.prog 62 #[.agg #[.int .i64 a0_0,.int .i64 a0_1,.slice A0_2 l0_2.length c0_2],.agg #[.int .i64 a1_0,.int .i64 a1_1,.slice A1_2 l1_2.length c1_2]] w fun e w'=>∃ v2_:Value,e = .returned (.agg #[.int .i64 r1,.int .i64 r2,v2_])∧Kd.N k29 29 w' w.heap.size (fun k_=>((P0_2_ k_ ∨ P1_2_ k_) ∨ w.heap.size ≤ k_)) v2_ r3∧Below w.heap.size w w':=by
 have hu29:=Try.underlying29
 have HO0_2:=Aside0.mk (show Kd.V k29 29 w w.heap.size (fun k_=>((P0_2_ k_ ∨ P1_2_ k_) ∨ w.heap.size ≤ k_)) (.slice A0_2 l0_2.length c0_2) l0_2 from Kd.V_mono hs0_2 (fun k_ hk=>.inl (.inl hk)))
 have HO1_2:=Aside0.mk (show Kd.V k29 29 w w.heap.size (fun k_=>((P0_2_ k_ ∨ P1_2_ k_) ∨ w.heap.size ≤ k_)) (.slice A1_2 l1_2.length c1_2) l1_2 from Kd.V_mono hs1_2 (fun k_ hk=>.inl (.inr hk)))
 have HB:=Aside0.mk (Below.refl w.heap.size w)
 have H:(some (4,0,(([(⟨a0_0,a0_1,l0_2⟩:S29),(⟨a1_0,a1_1,l1_2⟩:S29)]:List (S29))))) = some (r1,r2,r3):=h
 clear h
 obtain ⟨y314,hy314⟩:∃ y_:List (S29),y_ = (([(⟨a0_0,a0_1,l0_2⟩:S29),(⟨a1_0,a1_1,l1_2⟩:S29)]:List (S29))):=⟨_,rfl⟩
 replace H:(some (4,0,y314)) = some (r1,r2,r3):=by first | (rw [hy314];with_reducible exact H) | (have H2_:=(Option.bind_some _ _).symm.trans H;rw [hy314];with_reducible exact H2_) | (have H2_:=(Option.bind_some _ _).symm.trans H;with_reducible exact H2_) | with_reducible exact H | (rw [hy314];exact H) | exact H
 have Ny314:=Aside0.mk hy314
 clear hy314
 simp only [Option.some.injEq,Prod.mk.injEq] at H
 obtain ⟨rfl,rfl,rfl⟩:=H
 go_enter Try.func62,Try.ntmps62
 go_wp2_with (first | ((with_reducible refine gate_dst (N:=2) rfl ?_);refine box_event ?hg (N:=2) ?hd (cs:=#[.int .i64 a0_0,.int .i64 a0_1,.slice A0_2 l0_2.length c0_2]) (t:=29) ?hr ?_;(case hd=>rfl);(case hg=>rfl);(case hr=>first | (go_simp;done) | (go_simp;rfl));intro gb311 hg w3 hbox hb;have n0_:=Aside0.mk (Kd.V_below (Kd.V_elderB (by (with_reducible repeat (first | apply Kd.V_alloc | apply Kd.V_drewN | apply Kd.V_drew));exact HO0_2.out) gb311 (Nat.le_of_eq hg.symm)) hb);have n1_:=Aside0.mk (Kd.V_below (Kd.V_elderB (by (with_reducible repeat (first | apply Kd.V_alloc | apply Kd.V_drewN | apply Kd.V_drew));exact HO1_2.out) gb311 (Nat.le_of_eq hg.symm)) hb);have n2_:=Aside0.mk (below_step (by repeat (first | (with_reducible first | exact HB.out | apply below_alloc | apply pw_below_drewN | apply below_drew1) | exact HB.out)) hb);have n3_:=Aside0.mk (hbox);have n4_:=Aside0.mk ((by rw [hg];exact (below_size (by repeat (first | (with_reducible first | exact HB.out | apply below_alloc | apply pw_below_drewN | apply below_drew1) | exact HB.out))):w.heap.size ≤ gb311));have n5_:=Aside0.mk ((by rw [hg];exact (below_size (by repeat (first | (with_reducible first | exact HB.out | apply below_alloc | apply pw_below_drewN | apply below_drew1) | exact HB.out))):w.heap.size ≤ gb311));clear HO0_2;clear HO1_2;clear HB;have HO0_2:=n0_;have HO1_2:=n1_;have HB:=n2_;have BK311:=n3_;have GW311:=n4_;have GE311:=n5_;clear n0_ n1_ n2_ n3_ n4_ n5_;clear hb hbox hg) | ((with_reducible refine gate_dst (N:=3) rfl ?_);refine box_event ?hg (N:=3) ?hd (cs:=#[.int .i64 a1_0,.int .i64 a1_1,.slice A1_2 l1_2.length c1_2]) (t:=29) ?hr ?_;(case hd=>rfl);(case hg=>rfl);(case hr=>first | (go_simp;done) | (go_simp;rfl));intro gb312 hg w4 hbox hb;have n0_:=Aside0.mk (Kd.V_below (Kd.V_elderB (by (with_reducible repeat (first | apply Kd.V_alloc | apply Kd.V_drewN | apply Kd.V_drew));exact HO0_2.out) gb312 (Nat.le_of_eq hg.symm)) hb);have n1_:=Aside0.mk (Kd.V_below (Kd.V_elderB (by (with_reducible repeat (first | apply Kd.V_alloc | apply Kd.V_drewN | apply Kd.V_drew));exact HO1_2.out) gb312 (Nat.le_of_eq hg.symm)) hb);have n2_:=Aside0.mk (blk_below (g:=gb311) (o:=.cells #[.int .i64 a0_0,.int .i64 a0_1,.slice A0_2 l0_2.length c0_2] 29 (0,0)) (by (with_reducible repeat (first | refine blk_drewN ?_ _ | refine blk_drew ?_ | refine blk_alloc ?_ _));exact BK311.out) hb);have n3_:=Aside0.mk (below_step (by repeat (first | (with_reducible first | exact HB.out | apply below_alloc | apply pw_below_drewN | apply below_drew1 | refine below_set ?_ GE311.out) | exact HB.out)) hb);have n4_:=Aside0.mk (hbox);have n5_:=Aside0.mk ((by rw [hg];exact (below_size (by repeat (first | (with_reducible first | exact HB.out | apply below_alloc | apply pw_below_drewN | apply below_drew1 | refine below_set ?_ GE311.out) | exact HB.out))):w.heap.size ≤ gb312));have n6_:=Aside0.mk ((by rw [hg];exact (below_size (by repeat (first | (with_reducible first | exact HB.out | apply below_alloc | apply pw_below_drewN | apply below_drew1 | refine below_set ?_ GE311.out) | exact HB.out))):w.heap.size ≤ gb312));have n7_:=Aside0.mk ((by rw [hg];exact Nat.ne_of_lt (blk_lt (g:=gb311) (o:=.cells #[.int .i64 a0_0,.int .i64 a0_1,.slice A0_2 l0_2.length c0_2] 29 (0,0)) (by (with_reducible repeat (first | refine blk_drewN ?_ _ | refine blk_drew ?_ | refine blk_alloc ?_ _));exact BK311.out)):gb311 ≠ gb312));have n8_:=Aside0.mk ((by rw [hg];exact Nat.ne_of_gt (blk_lt (g:=gb311) (o:=.cells #[.int .i64 a0_0,.int .i64 a0_1,.slice A0_2 l0_2.length c0_2] 29 (0,0)) (by (with_reducible repeat (first | refine blk_drewN ?_ _ | refine blk_drew ?_ | refine blk_alloc ?_ _));exact BK311.out)):gb312 ≠ gb311));clear HO0_2;clear HO1_2;clear BK311;clear HB;have HO0_2:=n0_;have HO1_2:=n1_;have BK311:=n2_;have HB:=n3_;have BK312:=n4_;have GW312:=n5_;have GE312:=n6_;have NB311_312:=n7_;have NB312_311:=n8_;clear n0_ n1_ n2_ n3_ n4_ n5_ n6_ n7_ n8_;clear hb hbox hg) | ((with_reducible refine gate_dst (N:=4) rfl ?_);refine box_event ?hg (N:=4) ?hd (cs:=#[.int .i64 0,.int .i64 0,.slice none 0 0]) (t:=29) ?hr ?_;(case hd=>rfl);(case hg=>rfl);(case hr=>first | (go_simp;done) | (go_simp;rfl));intro gb313 hg w5 hbox hb;have n0_:=Aside0.mk (Kd.V_below (Kd.V_elderB (by (with_reducible repeat (first | apply Kd.V_alloc | apply Kd.V_drewN | apply Kd.V_drew));exact HO0_2.out) gb313 (Nat.le_of_eq hg.symm)) hb);have n1_:=Aside0.mk (Kd.V_below (Kd.V_elderB (by (with_reducible repeat (first | apply Kd.V_alloc | apply Kd.V_drewN | apply Kd.V_drew));exact HO1_2.out) gb313 (Nat.le_of_eq hg.symm)) hb);have n2_:=Aside0.mk (blk_below (g:=gb311) (o:=.cells #[.int .i64 a0_0,.int .i64 a0_1,.slice A0_2 l0_2.length c0_2] 29 (0,0)) (by (with_reducible repeat (first | refine blk_drewN ?_ _ | refine blk_drew ?_ | refine blk_alloc ?_ _));exact BK311.out) hb);have n3_:=Aside0.mk (blk_below (g:=gb312) (o:=.cells #[.int .i64 a1_0,.int .i64 a1_1,.slice A1_2 l1_2.length c1_2] 29 (0,0)) (by (with_reducible repeat (first | refine blk_drewN ?_ _ | refine blk_drew ?_ | refine blk_alloc ?_ _));exact BK312.out) hb);have n4_:=Aside0.mk (below_step (by repeat (first | (with_reducible first | exact HB.out | apply below_alloc | apply pw_below_drewN | apply below_drew1 | refine below_set ?_ GE311.out | refine below_set ?_ GE312.out) | exact HB.out)) hb);have n5_:=Aside0.mk (hbox);have n6_:=Aside0.mk ((by rw [hg];exact (below_size (by repeat (first | (with_reducible first | exact HB.out | apply below_alloc | apply pw_below_drewN | apply below_drew1 | refine below_set ?_ GE311.out | refine below_set ?_ GE312.out) | exact HB.out))):w.heap.size ≤ gb313));have n7_:=Aside0.mk ((by rw [hg];exact (below_size (by repeat (first | (with_reducible first | exact HB.out | apply below_alloc | apply pw_below_drewN | apply below_drew1 | refine below_set ?_ GE311.out | refine below_set ?_ GE312.out) | exact HB.out))):w.heap.size ≤ gb313));have n8_:=Aside0.mk ((by rw [hg];exact Nat.ne_of_lt (blk_lt (g:=gb311) (o:=.cells #[.int .i64 a0_0,.int .i64 a0_1,.slice A0_2 l0_2.length c0_2] 29 (0,0)) (by (with_reducible repeat (first | refine blk_drewN ?_ _ | refine blk_drew ?_ | refine blk_alloc ?_ _));exact BK311.out)):gb311 ≠ gb313));have n9_:=Aside0.mk ((by rw [hg];exact Nat.ne_of_gt (blk_lt (g:=gb311) (o:=.cells #[.int .i64 a0_0,.int .i64 a0_1,.slice A0_2 l0_2.length c0_2] 29 (0,0)) (by (with_reducible repeat (first | refine blk_drewN ?_ _ | refine blk_drew ?_ | refine blk_alloc ?_ _));exact BK311.out)):gb313 ≠ gb311));have n10_:=Aside0.mk ((by rw [hg];exact Nat.ne_of_lt (blk_lt (g:=gb312) (o:=.cells #[.int .i64 a1_0,.int .i64 a1_1,.slice A1_2 l1_2.length c1_2] 29 (0,0)) (by (with_reducible repeat (first | refine blk_drewN ?_ _ | refine blk_drew ?_ | refine blk_alloc ?_ _));exact BK312.out)):gb312 ≠ gb313));have n11_:=Aside0.mk ((by rw [hg];exact Nat.ne_of_gt (blk_lt (g:=gb312) (o:=.cells #[.int .i64 a1_0,.int .i64 a1_1,.slice A1_2 l1_2.length c1_2] 29 (0,0)) (by (with_reducible repeat (first | refine blk_drewN ?_ _ | refine blk_drew ?_ | refine blk_alloc ?_ _));exact BK312.out)):gb313 ≠ gb312));clear HO0_2;clear HO1_2;clear BK311;clear BK312;clear HB;have HO0_2:=n0_;have HO1_2:=n1_;have BK311:=n2_;have BK312:=n3_;have HB:=n4_;have BK313:=n5_;have GW313:=n6_;have GE313:=n7_;have NB311_313:=n8_;have NB313_311:=n9_;have NB312_313:=n10_;have NB313_312:=n11_;clear n0_ n1_ n2_ n3_ n4_ n5_ n6_ n7_ n8_ n9_ n10_ n11_;clear hb hbox hg;have hnb6:=NB311_312.out;have hnc6:=NB312_311.out;have hnb7:=NB311_313.out;have hnc7:=NB313_311.out;have hcz8_0:w5.cell? ⟨gb311,0,none⟩ = some (.int .i64 a0_0):=(blk_cell BK311.out 0).trans rfl;have hcz8_1:w5.cell? ⟨gb311,1,none⟩ = some (.int .i64 a0_1):=(blk_cell BK311.out 1).trans rfl;have hcz8_2:w5.cell? ⟨gb311,2,none⟩ = some (.slice A0_2 l0_2.length c0_2):=(blk_cell BK311.out 2).trans rfl;have hfz8_0:=blk_frozen BK311.out 0;have hfz8_1:=blk_frozen BK311.out 1;have hfz8_2:=blk_frozen BK311.out 2;have hnb9:=NB312_313.out;have hnc9:=NB313_312.out;have hcz10_0:w5.cell? ⟨gb312,0,none⟩ = some (.int .i64 a1_0):=(blk_cell BK312.out 0).trans rfl;have hcz10_1:w5.cell? ⟨gb312,1,none⟩ = some (.int .i64 a1_1):=(blk_cell BK312.out 1).trans rfl;have hcz10_2:w5.cell? ⟨gb312,2,none⟩ = some (.slice A1_2 l1_2.length c1_2):=(blk_cell BK312.out 2).trans rfl;have hfz10_0:=blk_frozen BK312.out 0;have hfz10_1:=blk_frozen BK312.out 1;have hfz10_2:=blk_frozen BK312.out 2) | ((with_reducible refine gate_dst (N:=7) rfl ?_);refine Kd.N_lit k29 _ 29 ?hg (N':=7) ?hd (xs:=([(⟨a0_0,a0_1,l0_2⟩:S29),(⟨a1_0,a1_1,l1_2⟩:S29)]:List (S29))) (inner:=[.int .i64 a0_0,.int .i64 a0_1,.slice A0_2 l0_2.length c0_2,.int .i64 a1_0,.int .i64 a1_1,.slice A1_2 l1_2.length c1_2]) (ok:=(fun k_=>((P0_2_ k_ ∨ P1_2_ k_) ∨ w.heap.size ≤ k_)∧k_ ≠ gb311∧k_ ≠ gb312∧k_ ≠ gb313)) (okp:=(fun k_=>((P0_2_ k_ ∨ P1_2_ k_) ∨ w.heap.size ≤ k_)∧k_ ≠ gb311∧k_ ≠ gb312∧k_ ≠ gb313)) ?hr ?hp (fun _ hk=>hk) ((show ∀ k_,w5.heap.size ≤ k_ → (fun k_=>((P0_2_ k_ ∨ P1_2_ k_) ∨ w.heap.size ≤ k_)∧k_ ≠ gb311∧k_ ≠ gb312∧k_ ≠ gb313) k_ from fun k_ hk=>⟨(.inr (Nat.le_trans (below_size (by repeat (first | (with_reducible first | exact HB.out | apply below_alloc | apply pw_below_drewN | apply below_drew1 | refine below_set ?_ GE311.out | refine below_set ?_ GE312.out | refine below_set ?_ GE313.out) | exact HB.out))) hk)),Kd.freshB (g:=gb311) (o:=.cells #[.int .i64 a0_0,.int .i64 a0_1,.slice A0_2 l0_2.length c0_2] 29 (0,0)) (by (with_reducible repeat (first | refine blk_drewN ?_ _ | refine blk_drew ?_ | refine blk_alloc ?_ _));exact BK311.out) k_ hk,Kd.freshB (g:=gb312) (o:=.cells #[.int .i64 a1_0,.int .i64 a1_1,.slice A1_2 l1_2.length c1_2] 29 (0,0)) (by (with_reducible repeat (first | refine blk_drewN ?_ _ | refine blk_drew ?_ | refine blk_alloc ?_ _));exact BK312.out) k_ hk,Kd.freshB (g:=gb313) (o:=.cells #[.int .i64 0,.int .i64 0,.slice none 0 0] 29 (0,0)) (by (with_reducible repeat (first | refine blk_drewN ?_ _ | refine blk_drew ?_ | refine blk_alloc ?_ _));exact BK313.out) k_ hk⟩) _ (Nat.le_refl _)) (Below.refl _ _) (Nat.le_refl _) (by simp) ?_;(case hd=>rfl);(case hg=>rfl);(case hr=>first | (go_simp;done) | (go_simp;rfl));(case hp=>exact (Reps.c3 (show Kd.FK k29 _ _ (⟨a0_0,a0_1,l0_2⟩:S29) [.int .i64 a0_0,.int .i64 a0_1,.slice A0_2 l0_2.length c0_2] from (k29_mkF _ _ (⟨a0_0,a0_1,l0_2⟩:S29) (Kd.V_reads' (Kd.V_mono (ok':=(fun k_=>((P0_2_ k_ ∨ P1_2_ k_) ∨ w.heap.size ≤ k_)∧k_ ≠ gb311∧k_ ≠ gb312∧k_ ≠ gb313)) (HO0_2.out) (fun k_ hk=>⟨hk.1.1.1,⟨hk.1.1.2,⟨hk.1.2,hk.2⟩⟩⟩))).2.1 (Kd.V_F (Kd.V_mono (ok':=(fun k_=>((P0_2_ k_ ∨ P1_2_ k_) ∨ w.heap.size ≤ k_)∧k_ ≠ gb311∧k_ ≠ gb312∧k_ ≠ gb313)) (HO0_2.out) (fun k_ hk=>⟨hk.1.1.1,⟨hk.1.1.2,⟨hk.1.2,hk.2⟩⟩⟩))))) (Reps.c3 (show Kd.FK k29 _ _ (⟨a1_0,a1_1,l1_2⟩:S29) [.int .i64 a1_0,.int .i64 a1_1,.slice A1_2 l1_2.length c1_2] from (k29_mkF _ _ (⟨a1_0,a1_1,l1_2⟩:S29) (Kd.V_reads' (Kd.V_mono (ok':=(fun k_=>((P0_2_ k_ ∨ P1_2_ k_) ∨ w.heap.size ≤ k_)∧k_ ≠ gb311∧k_ ≠ gb312∧k_ ≠ gb313)) (HO1_2.out) (fun k_ hk=>⟨hk.1.1.1,⟨hk.1.1.2,⟨hk.1.2,hk.2⟩⟩⟩))).2.1 (Kd.V_F (Kd.V_mono (ok':=(fun k_=>((P0_2_ k_ ∨ P1_2_ k_) ∨ w.heap.size ≤ k_)∧k_ ≠ gb311∧k_ ≠ gb312∧k_ ≠ gb313)) (HO1_2.out) (fun k_ hk=>⟨hk.1.1.1,⟨hk.1.1.2,⟨hk.1.2,hk.2⟩⟩⟩))))) (Reps.none _ _))));intro v315 w11 ho12 hb hg_ hnew_;clear hg_ hnew_;(first | rw [← Ny314.out] at ho12 | (simp only [Int.reduceToNat] at ho12;rw [← Ny314.out] at ho12));have n0_:=Aside0.mk (Kd.V_elder' (by (with_reducible repeat (first | apply Kd.V_alloc | apply Kd.V_drewN | apply Kd.V_drew));exact HO0_2.out) (Kd.N_base ho12) hb);have n1_:=Aside0.mk (Kd.V_elder' (by (with_reducible repeat (first | apply Kd.V_alloc | apply Kd.V_drewN | apply Kd.V_drew));exact HO1_2.out) (Kd.N_base ho12) hb);have n2_:=Aside0.mk (Kd.N_lower ho12 (below_size (by repeat (first | (with_reducible first | exact HB.out | apply below_alloc | apply pw_below_drewN | apply below_drew1 | refine below_set ?_ GE311.out | refine below_set ?_ GE312.out | refine below_set ?_ GE313.out) | exact HB.out))));have n3_:=Aside0.mk (blk_below (g:=gb311) (o:=.cells #[.int .i64 a0_0,.int .i64 a0_1,.slice A0_2 l0_2.length c0_2] 29 (0,0)) (by (with_reducible repeat (first | refine blk_drewN ?_ _ | refine blk_drew ?_ | refine blk_alloc ?_ _));exact BK311.out) hb);have n4_:=Aside0.mk (blk_below (g:=gb312) (o:=.cells #[.int .i64 a1_0,.int .i64 a1_1,.slice A1_2 l1_2.length c1_2] 29 (0,0)) (by (with_reducible repeat (first | refine blk_drewN ?_ _ | refine blk_drew ?_ | refine blk_alloc ?_ _));exact BK312.out) hb);have n5_:=Aside0.mk (blk_below (g:=gb313) (o:=.cells #[.int .i64 0,.int .i64 0,.slice none 0 0] 29 (0,0)) (by (with_reducible repeat (first | refine blk_drewN ?_ _ | refine blk_drew ?_ | refine blk_alloc ?_ _));exact BK313.out) hb);have n6_:=Aside0.mk (below_step (by repeat (first | (with_reducible first | exact HB.out | apply below_alloc | apply pw_below_drewN | apply below_drew1 | refine below_set ?_ GE311.out | refine below_set ?_ GE312.out | refine below_set ?_ GE313.out) | exact HB.out)) hb);clear HO0_2;clear HO1_2;clear BK311;clear BK312;clear BK313;clear HB;have HO0_2:=n0_;have HO1_2:=n1_;have HO316:=n2_;have BK311:=n3_;have BK312:=n4_;have BK313:=n5_;have HB:=n6_;clear n0_ n1_ n2_ n3_ n4_ n5_ n6_;clear hb ho12;obtain ⟨Ao13,co13,eo13⟩:=Kd.N_slice HO316.out;subst eo13;have hcz14_0:w11.cell? ⟨gb313,0,none⟩ = some (.int .i64 0):=(blk_cell BK313.out 0).trans rfl;have hcz14_1:w11.cell? ⟨gb313,1,none⟩ = some (.int .i64 0):=(blk_cell BK313.out 1).trans rfl;have hcz14_2:w11.cell? ⟨gb313,2,none⟩ = some (.slice none 0 0):=(blk_cell BK313.out 2).trans rfl;have hfz14_0:=blk_frozen BK313.out 0;have hfz14_1:=blk_frozen BK313.out 1;have hfz14_2:=blk_frozen BK313.out 2))
 refine bodyPost_ret (results_cell_row rfl _ _ gb313 29 #[.int .i64 4,.int .i64 0,.slice Ao13 y314.length co13] (0,0) _ rfl (by (with_reducible repeat (first | refine blk_drewN ?_ _ | refine blk_drew ?_ | refine blk_alloc ?_ _));refine blk_put (cs:=#[.int .i64 4,.int .i64 0,.slice none 0 0]) ?_ 2 _ rfl;(with_reducible repeat (first | refine blk_drewN ?_ _ | refine blk_drew ?_ | refine blk_alloc ?_ _));refine blk_put (cs:=#[.int .i64 4,.int .i64 0,.slice none 0 0]) ?_ 1 _ rfl;(with_reducible repeat (first | refine blk_drewN ?_ _ | refine blk_drew ?_ | refine blk_alloc ?_ _));refine blk_put (cs:=#[.int .i64 0,.int .i64 0,.slice none 0 0]) ?_ 0 _ rfl;(with_reducible repeat (first | refine blk_drewN ?_ _ | refine blk_drew ?_ | refine blk_alloc ?_ _));exact BK313.out) Try.underlying29 rfl (by kernel_rfl)) rfl ?_
 exact ⟨_,by first | rfl | (simp [errW_none,errW_some] <;> rfl) | (simp [*,errW_none,errW_some] <;> rfl),by (with_reducible repeat (first | apply Kd.N_alloc | apply Kd.N_drewN | apply Kd.N_drew));exact Kd.N_mono (Kd.N_far (p:=⟨gb313,2,none⟩) (Kd.N_far (p:=⟨gb313,1,none⟩) (Kd.N_far (p:=⟨gb313,0,none⟩) (Kd.N_mono HO316.out (fun k_ hk=>(⟨hk,hk.2.2.2⟩:_∧k_ ≠ gb313))) (fun _ hk=>hk.2) (.int .i64 4)) (fun _ hk=>hk.2) (.int .i64 0)) (fun _ hk=>hk.2) (.slice Ao13 y314.length co13)) (fun _ hk=>hk.1.1),by repeat (first | (with_reducible first | exact HB.out | apply below_alloc | apply pw_below_drewN | apply below_drew1 | refine below_set ?_ GE311.out | refine below_set ?_ GE312.out | refine below_set ?_ GE313.out) | exact HB.out)⟩
mutual
def impl_copyClock.l0:Nat → List (S29) → Int → Int → Int → Int → List (S29) → Option (Int × Int × (List (S29)))
 | 0,_,_,_,_,_,_=>none
 | k + 1,x12,x13,x14,x381000,x381001,x381002=>if x14 < x13 then (if 0 ≤ x14 then (if x14 < (x12.length:Int) then ((impl_copyClock.f k ((rd_T29 x12 x14).f0) ((rd_T29 x12 x14).f1) ((rd_T29 x12 x14).f2)).bind fun bt383=>(if x381002.length < 3518437208883 then (impl_copyClock.l0 k x12 x13 (wrap64 (x14 + 1)) x381000 x381001 (x381002 ++ [(⟨bt383.1,bt383.2.1,bt383.2.2⟩:S29)])) else (none))) else (none)) else (none)) else (some (x381000,x381001,x381002))
def impl_copyClock.f:Nat → Int → Int → List (S29) → Option (Int × Int × (List (S29)))
 | 0,_,_,_=>none
 | k + 1,a0_0,a0_1,l0_2=>impl_copyClock.l0 k l0_2 (l0_2.length:Int) 0 a0_0 a0_1 ([]:List (S29))
end
theorem impl_copyClock.mono_l:∀ k,(∀ y0 y1 y2,LeO (impl_copyClock.f k y0 y1 y2) (impl_copyClock.f (k + 1) y0 y1 y2))∧(∀ y0 y1 y2 y3 y4 y5,LeO (impl_copyClock.l0 k y0 y1 y2 y3 y4 y5) (impl_copyClock.l0 (k + 1) y0 y1 y2 y3 y4 y5))
 | 0=>⟨fun _ _ _ r h=>by simp [impl_copyClock.f] at h,fun _ _ _ _ _ _ r h=>by simp [impl_copyClock.l0] at h⟩
 | k + 1=>by
  obtain ⟨ih0,ih1⟩:=impl_copyClock.mono_l k
  refine ⟨?_,?_⟩
  ·intro y0 y1 y2
   unfold impl_copyClock.f
   repeat' first
   | (with_reducible exact ih0 _ _ _)
   | (with_reducible exact ih1 _ _ _ _ _ _)
   | (with_reducible exact LeO.refl _)
   | (with_reducible exact LeO.none _)
   | (with_reducible refine LeO.ite ?_ ?_)
   | (with_reducible refine LeO.bind ?_ (fun _=>?_))
   | exact ih0 _ _ _
   | exact ih1 _ _ _ _ _ _
   | exact LeO.none _
   | refine LeO.ite ?_ ?_
   | refine LeO.bind ?_ (fun _=>?_)
  ·intro y0 y1 y2 y3 y4 y5
   unfold impl_copyClock.l0
   repeat' first
   | (with_reducible exact ih0 _ _ _)
   | (with_reducible exact ih1 _ _ _ _ _ _)
   | (with_reducible exact LeO.refl _)
   | (with_reducible exact LeO.none _)
   | (with_reducible refine LeO.ite ?_ ?_)
   | (with_reducible refine LeO.bind ?_ (fun _=>?_))
   | exact ih0 _ _ _
   | exact ih1 _ _ _ _ _ _
   | exact LeO.none _
   | refine LeO.ite ?_ ?_
   | refine LeO.bind ?_ (fun _=>?_)
theorem impl_copyClock.mono:∀ a0 a1 a2 k,LeO (impl_copyClock.f k a0 a1 a2) (impl_copyClock.f (k + 1) a0 a1 a2):=by
 intro a0 a1 a2 k
 obtain ⟨ih0,ih1⟩:=impl_copyClock.mono_l k
 exact ih0 a0 a1 a2
def impl_copyClock.T5:Bool × List (List Nat × List Nat):=(true,[([],[]),([0],[0]),([],[]),([2],[2]),([3],[3]),([1,4,3],[1,4]),([0,1,2,3,4,5],[]),([6,5,5,0,1,2,3,4,5],[5,6])])
def impl_copyClock.B5:List Nat:=[0,1,0,4,12,31,63,127]
theorem impl_copyClock.tab5:rtab .any (opsOf Try.f48 5) = impl_copyClock.T5:=by kernel_rfl
theorem impl_copyClock.bits5:waitsOk impl_copyClock.T5.2 impl_copyClock.B5 = true:=by kernel_rfl
set_option maxHeartbeats 8000000 in
set_option maxRecDepth 100000 in
theorem impl_copyClock.calls (k:Nat):∀ (a0_0:Int) (a0_1:Int) (A0_2:Option Addr) (c0_2:Nat) (l0_2:List (S29)) (r1:Int) (r2:Int) (r3:List (S29)) (w:World) (hr0_2:Kd.C k29 w A0_2 l0_2.length l0_2) (hc0_2:l0_2.length ≤ c0_2) (h:impl_copyClock.f k a0_0 a0_1 l0_2 = some (r1,r2,r3)),
  Calls Try.prog 48 #[.agg #[.int .i64 a0_0,.int .i64 a0_1,.slice A0_2 l0_2.length c0_2]] w fun e w'=>∃ v2_:Value,e = .returned (.agg #[.int .i64 r1,.int .i64 r2,v2_])∧Kd.N k29 29 w' w.heap.size (fun k_=>(w.heap.size ≤ k_)) v2_ r3∧Below w.heap.size w w':=by
 induction k using Nat.strongRecOn with
 | _ k ih =>
 intro a0_0 a0_1 A0_2 c0_2 l0_2 r1 r2 r3 w hr0_2 hc0_2 h
 cases k with
 | zero=>exact absurd h (by simp [impl_copyClock.f])
 | succ k =>
 simp only [impl_copyClock.f] at h
 have hu29:=Try.underlying29
 have HR0_2:=Aside0.mk hr0_2
 have HC0_2:=Aside0.mk hc0_2
 clear hr0_2 hc0_2
 have HB:=Aside0.mk (Below.refl w.heap.size w)
 have H:(impl_copyClock.l0 k l0_2 (l0_2.length:Int) 0 a0_0 a0_1 ([]:List (S29))) = some (r1,r2,r3):=h
 clear h
 have H':=Aside0.mk H
 clear H
 go_enter Try.func48,Try.ntmps48
 go_wp2_with (first | ((with_reducible refine gate_dst (N:=1) rfl ?_);refine box_event ?hg (N:=1) ?hd (cs:=#[.int .i64 a0_0,.int .i64 a0_1,.slice A0_2 l0_2.length c0_2]) (t:=29) ?hr ?_;(case hd=>rfl);(case hg=>rfl);(case hr=>first | (go_simp;done) | (go_simp;rfl));intro gb378 hg w2 hbox hb;have n0_:=Aside0.mk (below_step (by repeat (first | (with_reducible first | exact HB.out | apply below_alloc | apply pw_below_drewN | apply below_drew1) | exact HB.out)) hb);have n1_:=Aside0.mk (hbox);have n2_:=Aside0.mk ((by rw [hg];exact (below_size (by repeat (first | (with_reducible first | exact HB.out | apply below_alloc | apply pw_below_drewN | apply below_drew1) | exact HB.out))):w.heap.size ≤ gb378));have n3_:=Aside0.mk ((by rw [hg];exact (below_size (by repeat (first | (with_reducible first | exact HB.out | apply below_alloc | apply pw_below_drewN | apply below_drew1) | exact HB.out))):w.heap.size ≤ gb378));clear HB;have HB:=n0_;have BK378:=n1_;have GW378:=n2_;have GE378:=n3_;clear n0_ n1_ n2_ n3_;clear hb hbox hg) | ((with_reducible refine gate_dst (N:=2) rfl ?_);refine box_event ?hg (N:=2) ?hd (cs:=#[.int .i64 0,.int .i64 0,.slice none 0 0]) (t:=29) ?hr ?_;(case hd=>rfl);(case hg=>rfl);(case hr=>first | (go_simp;done) | (go_simp;rfl));intro gb379 hg w3 hbox hb;have n0_:=Aside0.mk (blk_below (g:=gb378) (o:=.cells #[.int .i64 a0_0,.int .i64 a0_1,.slice A0_2 l0_2.length c0_2] 29 (0,0)) (by (with_reducible repeat (first | refine blk_drewN ?_ _ | refine blk_drew ?_ | refine blk_alloc ?_ _));exact BK378.out) hb);have n1_:=Aside0.mk (below_step (by repeat (first | (with_reducible first | exact HB.out | apply below_alloc | apply pw_below_drewN | apply below_drew1 | refine below_set ?_ GE378.out) | exact HB.out)) hb);have n2_:=Aside0.mk (hbox);have n3_:=Aside0.mk ((by rw [hg];exact (below_size (by repeat (first | (with_reducible first | exact HB.out | apply below_alloc | apply pw_below_drewN | apply below_drew1 | refine below_set ?_ GE378.out) | exact HB.out))):w.heap.size ≤ gb379));have n4_:=Aside0.mk ((by rw [hg];exact (below_size (by repeat (first | (with_reducible first | exact HB.out | apply below_alloc | apply pw_below_drewN | apply below_drew1 | refine below_set ?_ GE378.out) | exact HB.out))):w.heap.size ≤ gb379));have n5_:=Aside0.mk ((by rw [hg];exact Nat.ne_of_lt (blk_lt (g:=gb378) (o:=.cells #[.int .i64 a0_0,.int .i64 a0_1,.slice A0_2 l0_2.length c0_2] 29 (0,0)) (by (with_reducible repeat (first | refine blk_drewN ?_ _ | refine blk_drew ?_ | refine blk_alloc ?_ _));exact BK378.out)):gb378 ≠ gb379));have n6_:=Aside0.mk ((by rw [hg];exact Nat.ne_of_gt (blk_lt (g:=gb378) (o:=.cells #[.int .i64 a0_0,.int .i64 a0_1,.slice A0_2 l0_2.length c0_2] 29 (0,0)) (by (with_reducible repeat (first | refine blk_drewN ?_ _ | refine blk_drew ?_ | refine blk_alloc ?_ _));exact BK378.out)):gb379 ≠ gb378));clear BK378;clear HB;have BK378:=n0_;have HB:=n1_;have BK379:=n2_;have GW379:=n3_;have GE379:=n4_;have NB378_379:=n5_;have NB379_378:=n6_;clear n0_ n1_ n2_ n3_ n4_ n5_ n6_;clear hb hbox hg;have hnb4:=NB378_379.out;have hnc4:=NB379_378.out;have hcz5_0:w3.cell? ⟨gb378,0,none⟩ = some (.int .i64 a0_0):=(blk_cell BK378.out 0).trans rfl;have hcz5_1:w3.cell? ⟨gb378,1,none⟩ = some (.int .i64 a0_1):=(blk_cell BK378.out 1).trans rfl;have hcz5_2:w3.cell? ⟨gb378,2,none⟩ = some (.slice A0_2 l0_2.length c0_2):=(blk_cell BK378.out 2).trans rfl;have hfz5_0:=blk_frozen BK378.out 0;have hfz5_1:=blk_frozen BK378.out 1;have hfz5_2:=blk_frozen BK378.out 2) | ((with_reducible refine gate_dst (N:=3) rfl ?_);refine box_event ?hg (N:=3) ?hd (cs:=#[.int .i64 0,.int .i64 0,.slice none 0 0]) (t:=29) ?hr ?_;(case hd=>rfl);(case hg=>rfl);(case hr=>first | (go_simp;done) | (go_simp;rfl));intro gb380 hg w6 hbox hb;have n0_:=Aside0.mk (blk_below (g:=gb378) (o:=.cells #[.int .i64 a0_0,.int .i64 a0_1,.slice A0_2 l0_2.length c0_2] 29 (0,0)) (by (with_reducible repeat (first | refine blk_drewN ?_ _ | refine blk_drew ?_ | refine blk_alloc ?_ _));exact BK378.out) hb);have n1_:=Aside0.mk (blk_below (g:=gb379) (o:=.cells #[.int .i64 0,.int .i64 0,.slice none 0 0] 29 (0,0)) (by (with_reducible repeat (first | refine blk_drewN ?_ _ | refine blk_drew ?_ | refine blk_alloc ?_ _));exact BK379.out) hb);have n2_:=Aside0.mk (below_step (by repeat (first | (with_reducible first | exact HB.out | apply below_alloc | apply pw_below_drewN | apply below_drew1 | refine below_set ?_ GE378.out | refine below_set ?_ GE379.out) | exact HB.out)) hb);have n3_:=Aside0.mk (hbox);have n4_:=Aside0.mk ((by rw [hg];exact (below_size (by repeat (first | (with_reducible first | exact HB.out | apply below_alloc | apply pw_below_drewN | apply below_drew1 | refine below_set ?_ GE378.out | refine below_set ?_ GE379.out) | exact HB.out))):w.heap.size ≤ gb380));have n5_:=Aside0.mk ((by rw [hg];exact (below_size (by repeat (first | (with_reducible first | exact HB.out | apply below_alloc | apply pw_below_drewN | apply below_drew1 | refine below_set ?_ GE378.out | refine below_set ?_ GE379.out) | exact HB.out))):w.heap.size ≤ gb380));have n6_:=Aside0.mk ((by rw [hg];exact Nat.ne_of_lt (blk_lt (g:=gb378) (o:=.cells #[.int .i64 a0_0,.int .i64 a0_1,.slice A0_2 l0_2.length c0_2] 29 (0,0)) (by (with_reducible repeat (first | refine blk_drewN ?_ _ | refine blk_drew ?_ | refine blk_alloc ?_ _));exact BK378.out)):gb378 ≠ gb380));have n7_:=Aside0.mk ((by rw [hg];exact Nat.ne_of_gt (blk_lt (g:=gb378) (o:=.cells #[.int .i64 a0_0,.int .i64 a0_1,.slice A0_2 l0_2.length c0_2] 29 (0,0)) (by (with_reducible repeat (first | refine blk_drewN ?_ _ | refine blk_drew ?_ | refine blk_alloc ?_ _));exact BK378.out)):gb380 ≠ gb378));have n8_:=Aside0.mk ((by rw [hg];exact Nat.ne_of_lt (blk_lt (g:=gb379) (o:=.cells #[.int .i64 0,.int .i64 0,.slice none 0 0] 29 (0,0)) (by (with_reducible repeat (first | refine blk_drewN ?_ _ | refine blk_drew ?_ | refine blk_alloc ?_ _));exact BK379.out)):gb379 ≠ gb380));have n9_:=Aside0.mk ((by rw [hg];exact Nat.ne_of_gt (blk_lt (g:=gb379) (o:=.cells #[.int .i64 0,.int .i64 0,.slice none 0 0] 29 (0,0)) (by (with_reducible repeat (first | refine blk_drewN ?_ _ | refine blk_drew ?_ | refine blk_alloc ?_ _));exact BK379.out)):gb380 ≠ gb379));clear BK378;clear BK379;clear HB;have BK378:=n0_;have BK379:=n1_;have HB:=n2_;have BK380:=n3_;have GW380:=n4_;have GE380:=n5_;have NB378_380:=n6_;have NB380_378:=n7_;have NB379_380:=n8_;have NB380_379:=n9_;clear n0_ n1_ n2_ n3_ n4_ n5_ n6_ n7_ n8_ n9_;clear hb hbox hg;have hnb7:=NB380_378.out;have hnc7:=NB378_380.out;have hnb8:=NB380_379.out;have hnc8:=NB379_380.out;have hcz9_0:w6.cell? ⟨gb380,0,none⟩ = some (.int .i64 0):=(blk_cell BK380.out 0).trans rfl;have hcz9_1:w6.cell? ⟨gb380,1,none⟩ = some (.int .i64 0):=(blk_cell BK380.out 1).trans rfl;have hcz9_2:w6.cell? ⟨gb380,2,none⟩ = some (.slice none 0 0):=(blk_cell BK380.out 2).trans rfl;have hfz9_0:=blk_frozen BK380.out 0;have hfz9_1:=blk_frozen BK380.out 1;have hfz9_2:=blk_frozen BK380.out 2;have hcz10_0:w6.cell? ⟨gb378,0,none⟩ = some (.int .i64 a0_0):=(blk_cell BK378.out 0).trans rfl;have hcz10_1:w6.cell? ⟨gb378,1,none⟩ = some (.int .i64 a0_1):=(blk_cell BK378.out 1).trans rfl;have hcz10_2:w6.cell? ⟨gb378,2,none⟩ = some (.slice A0_2 l0_2.length c0_2):=(blk_cell BK378.out 2).trans rfl;have hfz10_0:=blk_frozen BK378.out 0;have hfz10_1:=blk_frozen BK378.out 1;have hfz10_2:=blk_frozen BK378.out 2))
 go_loopg [14] k (fun kq v14 w'=>∃ (x14_1:Int) (x381002_1:List (S29)) (u381002:Value),v14 = .int .i64 x14_1∧Aside0 (impl_copyClock.l0 kq l0_2 (l0_2.length:Int) x14_1 a0_0 a0_1 x381002_1 = some (r1,r2,r3))∧Aside0 (kq ≤ k)∧Aside0 (Kd.N k29 29 w' w.heap.size (fun k_=>(w.heap.size ≤ k_)∧k_ ≠ gb378∧k_ ≠ gb379∧k_ ≠ gb380) u381002 x381002_1)∧Aside0 (w'.heap[gb378]? = some (.cells #[.int .i64 a0_0,.int .i64 a0_1,(.slice A0_2 l0_2.length c0_2)] 29 (0,0)))∧Aside0 (w'.heap[gb379]? = some (.cells #[.int .i64 0,.int .i64 0,(.slice none 0 0)] 29 (0,0)))∧Aside0 (w'.heap[gb380]? = some (.cells #[.int .i64 a0_0,.int .i64 a0_1,u381002] 29 (0,0)))∧Aside0 (Below w.heap.size w w'))
 case atStart=>exact ⟨(0),(([]:List (S29))),(.slice none 0 0),(by first | rfl | (simp;done) | (simp [*];done)),H',⟨Nat.le_refl _⟩,⟨by first | exact Kd.R_nil _ _ _ _ _ | exact Kd.N_nil _ _ _ _ _ | exact Kd.V_nil _ _ _ _ _ | exact Kd.Q_nil _ _ _ _ _ | exact Kd.S_nil _ _ _ _ _⟩,⟨by (with_reducible repeat (first | refine blk_drewN ?_ _ | refine blk_drew ?_ | refine blk_alloc ?_ _));refine blk_far ?_ NB378_380.out _;(with_reducible repeat (first | refine blk_drewN ?_ _ | refine blk_drew ?_ | refine blk_alloc ?_ _));refine blk_far ?_ NB378_380.out _;(with_reducible repeat (first | refine blk_drewN ?_ _ | refine blk_drew ?_ | refine blk_alloc ?_ _));refine blk_far ?_ NB378_380.out _;(with_reducible repeat (first | refine blk_drewN ?_ _ | refine blk_drew ?_ | refine blk_alloc ?_ _));exact BK378.out⟩,⟨by (with_reducible repeat (first | refine blk_drewN ?_ _ | refine blk_drew ?_ | refine blk_alloc ?_ _));refine blk_far ?_ NB379_380.out _;(with_reducible repeat (first | refine blk_drewN ?_ _ | refine blk_drew ?_ | refine blk_alloc ?_ _));refine blk_far ?_ NB379_380.out _;(with_reducible repeat (first | refine blk_drewN ?_ _ | refine blk_drew ?_ | refine blk_alloc ?_ _));refine blk_far ?_ NB379_380.out _;(with_reducible repeat (first | refine blk_drewN ?_ _ | refine blk_drew ?_ | refine blk_alloc ?_ _));exact BK379.out⟩,⟨by (with_reducible repeat (first | refine blk_drewN ?_ _ | refine blk_drew ?_ | refine blk_alloc ?_ _));refine blk_put (cs:=#[.int .i64 a0_0,.int .i64 a0_1,.slice none 0 0]) ?_ 2 _ rfl;(with_reducible repeat (first | refine blk_drewN ?_ _ | refine blk_drew ?_ | refine blk_alloc ?_ _));refine blk_put (cs:=#[.int .i64 a0_0,.int .i64 0,.slice none 0 0]) ?_ 1 _ rfl;(with_reducible repeat (first | refine blk_drewN ?_ _ | refine blk_drew ?_ | refine blk_alloc ?_ _));refine blk_put (cs:=#[.int .i64 0,.int .i64 0,.slice none 0 0]) ?_ 0 _ rfl;(with_reducible repeat (first | refine blk_drewN ?_ _ | refine blk_drew ?_ | refine blk_alloc ?_ _));exact BK380.out⟩,⟨by repeat (first | (with_reducible first | exact HB.out | apply below_alloc | apply pw_below_drewN | apply below_drew1 | refine below_set ?_ GE378.out | refine below_set ?_ GE379.out | refine below_set ?_ GE380.out) | exact HB.out)⟩⟩
 case round =>
  clear H'
  try clear p2
  try clear c4
  try clear c7
  try clear c8
  try clear hcz10_0
  try clear hcz10_1
  try clear hcz10_2
  try clear hcz5_0
  try clear hcz5_1
  try clear hcz5_2
  try clear hcz9_0
  try clear hcz9_1
  try clear hcz9_2
  try clear hfz10_0
  try clear hfz10_1
  try clear hfz10_2
  try clear hfz5_0
  try clear hfz5_1
  try clear hfz5_2
  try clear hfz9_0
  try clear hfz9_1
  try clear hfz9_2
  repeat (first | clear HO_381002 | clear BK378 | clear BK379 | clear BK380 | clear HB)
  obtain ⟨x14_1,x381002_1,u381002,rfl,HA,HK1,HO_381002,BK378,BK379,BK380,HB⟩:=hrel
  cases gk with
  | zero=>exact absurd HA.out (by simp [impl_copyClock.l0])
  | succ k1 =>
   have H:=HA.out
   clear HA
   simp only [impl_copyClock.l0] at H
   by_cases c11:x14_1 < (l0_2.length:Int)
   ·rw [if_pos c11] at H
    have c11b0:decide (x14_1 < (l0_2.length:Int)) = true:=decide_eq_true c11
    clear c11
    by_cases c12:0 ≤ x14_1
    ·rw [if_pos c12] at H
     have c12b0:decide (0 ≤ x14_1) = true:=decide_eq_true c12
     clear c12
     by_cases c13:x14_1 < (l0_2.length:Int)
     ·rw [if_pos c13] at H
      have c13b0:decide (x14_1 < (l0_2.length:Int)) = true:=decide_eq_true c13
      clear c13
      replace H:=Option.bind_eq_some_iff.mp H
      obtain ⟨⟨t383,t384,t385⟩,A140,H⟩:=H
      replace H:(if x381002_1.length < 3518437208883 then (impl_copyClock.l0 k1 l0_2 (l0_2.length:Int) (wrap64 (x14_1 + 1)) a0_0 a0_1 (x381002_1 ++ [(⟨t383,t384,t385⟩:S29)])) else (none)) = some (r1,r2,r3):=H
      have A14:=Aside0.mk A140
      clear A140
      by_cases c15:x381002_1.length < 3518437208883
      ·rw [if_pos c15] at H
       have LMc15:=Aside0.mk c15
       clear c15
       obtain ⟨y388,hy388⟩:∃ y_:List (S29),y_ = (x381002_1 ++ [(⟨t383,t384,t385⟩:S29)]):=⟨_,rfl⟩
       replace H:(impl_copyClock.l0 k1 l0_2 (l0_2.length:Int) (wrap64 (x14_1 + 1)) a0_0 a0_1 y388) = some (r1,r2,r3):=by first | (rw [hy388];with_reducible exact H) | (have H2_:=(Option.bind_some _ _).symm.trans H;rw [hy388];with_reducible exact H2_) | (have H2_:=(Option.bind_some _ _).symm.trans H;with_reducible exact H2_) | with_reducible exact H | (rw [hy388];exact H) | exact H
       have Ny388:=Aside0.mk hy388
       clear hy388
       have H':=Aside0.mk H
       clear H
       have p381:0 ≤ (x14_1:Int):=of_decide_eq_true (by first | (with_reducible assumption) | assumption)
       have q381:x14_1 < (l0_2.length:Int):=of_decide_eq_true (by first | (with_reducible assumption) | assumption)
       obtain ⟨ad381,A381_2,c381_2,e381,hx381_0,hx381_1,hx381_2,hl381_2,hi381_2⟩:=at_T29 HR0_2.out x14_1 p381 q381
       cases e381
       replace hx381_0:=(HB.out.cell (World.block_lt_of_cell? w _ hx381_0)).trans hx381_0
       replace hx381_1:=(HB.out.cell (World.block_lt_of_cell? w _ hx381_1)).trans hx381_1
       replace hx381_2:=(HB.out.cell (World.block_lt_of_cell? w _ hx381_2)).trans hx381_2
       have HR381_2:=Aside0.mk hi381_2
       have HC381_2:=Aside0.mk hl381_2
       clear hi381_2 hl381_2
       replace p381:=eq_true p381
       replace q381:=eq_true q381
       try go_wp2_with (first | ((with_reducible refine gate_dst (N:=5) rfl ?_);refine box_event ?hg (N:=5) ?hd (cs:=#[.int .i64 0,.int .i64 0,.slice none 0 0]) (t:=29) ?hr ?_;(case hd=>rfl);(case hg=>rfl);(case hr=>first | (go_simp;done) | (go_simp;rfl));intro gb382 hg w16 hbox hb;have n0_:=Aside0.mk (Kd.N_below (Kd.N_elderB (by (with_reducible repeat (first | apply Kd.N_alloc | apply Kd.N_drewN | apply Kd.N_drew));exact HO_381002.out) gb382 (Nat.le_of_eq hg.symm)) hb);have n1_:=Aside0.mk (blk_below (g:=gb378) (o:=.cells #[.int .i64 a0_0,.int .i64 a0_1,.slice (some ad381) l0_2.length c0_2] 29 (0,0)) (by (with_reducible repeat (first | refine blk_drewN ?_ _ | refine blk_drew ?_ | refine blk_alloc ?_ _));exact BK378.out) hb);have n2_:=Aside0.mk (blk_below (g:=gb379) (o:=.cells #[.int .i64 0,.int .i64 0,.slice none 0 0] 29 (0,0)) (by (with_reducible repeat (first | refine blk_drewN ?_ _ | refine blk_drew ?_ | refine blk_alloc ?_ _));exact BK379.out) hb);have n3_:=Aside0.mk (blk_below (g:=gb380) (o:=.cells #[.int .i64 a0_0,.int .i64 a0_1,u381002] 29 (0,0)) (by (with_reducible repeat (first | refine blk_drewN ?_ _ | refine blk_drew ?_ | refine blk_alloc ?_ _));exact BK380.out) hb);have n4_:=Aside0.mk (below_step (by repeat (first | (with_reducible first | exact HB.out | apply below_alloc | apply pw_below_drewN | apply below_drew1 | refine below_set ?_ GE378.out | refine below_set ?_ GE379.out | refine below_set ?_ GE380.out) | exact HB.out)) hb);have n5_:=Aside0.mk (hbox);have n6_:=Aside0.mk ((by rw [hg];exact (below_size (by repeat (first | (with_reducible first | exact HB.out | apply below_alloc | apply pw_below_drewN | apply below_drew1 | refine below_set ?_ GE378.out | refine below_set ?_ GE379.out | refine below_set ?_ GE380.out) | exact HB.out))):w.heap.size ≤ gb382));have n7_:=Aside0.mk ((by rw [hg];exact (below_size (by repeat (first | (with_reducible first | exact HB.out | apply below_alloc | apply pw_below_drewN | apply below_drew1 | refine below_set ?_ GE378.out | refine below_set ?_ GE379.out | refine below_set ?_ GE380.out) | exact HB.out))):w.heap.size ≤ gb382));have n8_:=Aside0.mk ((by rw [hg];exact Nat.ne_of_lt (blk_lt (g:=gb378) (o:=.cells #[.int .i64 a0_0,.int .i64 a0_1,.slice (some ad381) l0_2.length c0_2] 29 (0,0)) (by (with_reducible repeat (first | refine blk_drewN ?_ _ | refine blk_drew ?_ | refine blk_alloc ?_ _));exact BK378.out)):gb378 ≠ gb382));have n9_:=Aside0.mk ((by rw [hg];exact Nat.ne_of_gt (blk_lt (g:=gb378) (o:=.cells #[.int .i64 a0_0,.int .i64 a0_1,.slice (some ad381) l0_2.length c0_2] 29 (0,0)) (by (with_reducible repeat (first | refine blk_drewN ?_ _ | refine blk_drew ?_ | refine blk_alloc ?_ _));exact BK378.out)):gb382 ≠ gb378));have n10_:=Aside0.mk ((by rw [hg];exact Nat.ne_of_lt (blk_lt (g:=gb379) (o:=.cells #[.int .i64 0,.int .i64 0,.slice none 0 0] 29 (0,0)) (by (with_reducible repeat (first | refine blk_drewN ?_ _ | refine blk_drew ?_ | refine blk_alloc ?_ _));exact BK379.out)):gb379 ≠ gb382));have n11_:=Aside0.mk ((by rw [hg];exact Nat.ne_of_gt (blk_lt (g:=gb379) (o:=.cells #[.int .i64 0,.int .i64 0,.slice none 0 0] 29 (0,0)) (by (with_reducible repeat (first | refine blk_drewN ?_ _ | refine blk_drew ?_ | refine blk_alloc ?_ _));exact BK379.out)):gb382 ≠ gb379));have n12_:=Aside0.mk ((by rw [hg];exact Nat.ne_of_lt (blk_lt (g:=gb380) (o:=.cells #[.int .i64 a0_0,.int .i64 a0_1,u381002] 29 (0,0)) (by (with_reducible repeat (first | refine blk_drewN ?_ _ | refine blk_drew ?_ | refine blk_alloc ?_ _));exact BK380.out)):gb380 ≠ gb382));have n13_:=Aside0.mk ((by rw [hg];exact Nat.ne_of_gt (blk_lt (g:=gb380) (o:=.cells #[.int .i64 a0_0,.int .i64 a0_1,u381002] 29 (0,0)) (by (with_reducible repeat (first | refine blk_drewN ?_ _ | refine blk_drew ?_ | refine blk_alloc ?_ _));exact BK380.out)):gb382 ≠ gb380));clear HO_381002;clear BK378;clear BK379;clear BK380;clear HB;have HO_381002:=n0_;have BK378:=n1_;have BK379:=n2_;have BK380:=n3_;have HB:=n4_;have BK382:=n5_;have GW382:=n6_;have GE382:=n7_;have NB378_382:=n8_;have NB382_378:=n9_;have NB379_382:=n10_;have NB382_379:=n11_;have NB380_382:=n12_;have NB382_380:=n13_;clear n0_ n1_ n2_ n3_ n4_ n5_ n6_ n7_ n8_ n9_ n10_ n11_ n12_ n13_;clear hb hbox hg;have hnb17:=NB382_378.out;have hnc17:=NB378_382.out;have hnb18:=NB382_379.out;have hnc18:=NB379_382.out;have hnb19:=NB382_380.out;have hnc19:=NB380_382.out;have hcz20_0:w16.cell? ⟨gb382,0,none⟩ = some (.int .i64 0):=(blk_cell BK382.out 0).trans rfl;have hcz20_1:w16.cell? ⟨gb382,1,none⟩ = some (.int .i64 0):=(blk_cell BK382.out 1).trans rfl;have hcz20_2:w16.cell? ⟨gb382,2,none⟩ = some (.slice none 0 0):=(blk_cell BK382.out 2).trans rfl;have hfz20_0:=blk_frozen BK382.out 0;have hfz20_1:=blk_frozen BK382.out 1;have hfz20_2:=blk_frozen BK382.out 2))
       have n0_:Aside0 (Kd.N k29 29 (((w16.setCell ⟨gb382,0,none⟩ (.int .i64 ((rd_T29 l0_2 x14_1).f0))).setCell ⟨gb382,1,none⟩ (.int .i64 ((rd_T29 l0_2 x14_1).f1))).setCell ⟨gb382,2,none⟩ (.slice A381_2 ((rd_T29 l0_2 x14_1).f2).length c381_2)) w.heap.size (fun k_=>(w.heap.size ≤ k_)∧k_ ≠ gb378∧k_ ≠ gb379∧k_ ≠ gb380∧k_ ≠ gb382) u381002 x381002_1):=⟨by (with_reducible repeat (first | apply Kd.N_alloc | apply Kd.N_drewN | apply Kd.N_drew));exact Kd.N_mono (Kd.N_far (p:=⟨gb382,2,none⟩) (Kd.N_far (p:=⟨gb382,1,none⟩) (Kd.N_far (p:=⟨gb382,0,none⟩) (Kd.N_mono HO_381002.out (fun k_ hk=>(⟨hk,hk.2⟩:_∧k_ ≠ gb382))) (fun _ hk=>hk.2) (.int .i64 ((rd_T29 l0_2 x14_1).f0))) (fun _ hk=>hk.2) (.int .i64 ((rd_T29 l0_2 x14_1).f1))) (fun _ hk=>hk.2) (.slice A381_2 ((rd_T29 l0_2 x14_1).f2).length c381_2)) (fun _ hk=>⟨hk.1.1.1,⟨hk.1.1.2.1,⟨hk.1.1.2.2.1,⟨hk.1.1.2.2.2,hk.1.2⟩⟩⟩⟩)⟩
       have n1_:Aside0 ((((w16.setCell ⟨gb382,0,none⟩ (.int .i64 ((rd_T29 l0_2 x14_1).f0))).setCell ⟨gb382,1,none⟩ (.int .i64 ((rd_T29 l0_2 x14_1).f1))).setCell ⟨gb382,2,none⟩ (.slice A381_2 ((rd_T29 l0_2 x14_1).f2).length c381_2)).heap[gb378]? = some (.cells #[.int .i64 a0_0,.int .i64 a0_1,.slice (some ad381) l0_2.length c0_2] 29 (0,0))):=⟨by (with_reducible repeat (first | refine blk_drewN ?_ _ | refine blk_drew ?_ | refine blk_alloc ?_ _));refine blk_far ?_ NB378_382.out _;(with_reducible repeat (first | refine blk_drewN ?_ _ | refine blk_drew ?_ | refine blk_alloc ?_ _));refine blk_far ?_ NB378_382.out _;(with_reducible repeat (first | refine blk_drewN ?_ _ | refine blk_drew ?_ | refine blk_alloc ?_ _));refine blk_far ?_ NB378_382.out _;(with_reducible repeat (first | refine blk_drewN ?_ _ | refine blk_drew ?_ | refine blk_alloc ?_ _));exact BK378.out⟩
       have n2_:Aside0 ((((w16.setCell ⟨gb382,0,none⟩ (.int .i64 ((rd_T29 l0_2 x14_1).f0))).setCell ⟨gb382,1,none⟩ (.int .i64 ((rd_T29 l0_2 x14_1).f1))).setCell ⟨gb382,2,none⟩ (.slice A381_2 ((rd_T29 l0_2 x14_1).f2).length c381_2)).heap[gb379]? = some (.cells #[.int .i64 0,.int .i64 0,.slice none 0 0] 29 (0,0))):=⟨by (with_reducible repeat (first | refine blk_drewN ?_ _ | refine blk_drew ?_ | refine blk_alloc ?_ _));refine blk_far ?_ NB379_382.out _;(with_reducible repeat (first | refine blk_drewN ?_ _ | refine blk_drew ?_ | refine blk_alloc ?_ _));refine blk_far ?_ NB379_382.out _;(with_reducible repeat (first | refine blk_drewN ?_ _ | refine blk_drew ?_ | refine blk_alloc ?_ _));refine blk_far ?_ NB379_382.out _;(with_reducible repeat (first | refine blk_drewN ?_ _ | refine blk_drew ?_ | refine blk_alloc ?_ _));exact BK379.out⟩
       have n3_:Aside0 ((((w16.setCell ⟨gb382,0,none⟩ (.int .i64 ((rd_T29 l0_2 x14_1).f0))).setCell ⟨gb382,1,none⟩ (.int .i64 ((rd_T29 l0_2 x14_1).f1))).setCell ⟨gb382,2,none⟩ (.slice A381_2 ((rd_T29 l0_2 x14_1).f2).length c381_2)).heap[gb380]? = some (.cells #[.int .i64 a0_0,.int .i64 a0_1,u381002] 29 (0,0))):=⟨by (with_reducible repeat (first | refine blk_drewN ?_ _ | refine blk_drew ?_ | refine blk_alloc ?_ _));refine blk_far ?_ NB380_382.out _;(with_reducible repeat (first | refine blk_drewN ?_ _ | refine blk_drew ?_ | refine blk_alloc ?_ _));refine blk_far ?_ NB380_382.out _;(with_reducible repeat (first | refine blk_drewN ?_ _ | refine blk_drew ?_ | refine blk_alloc ?_ _));refine blk_far ?_ NB380_382.out _;(with_reducible repeat (first | refine blk_drewN ?_ _ | refine blk_drew ?_ | refine blk_alloc ?_ _));exact BK380.out⟩
       have n4_:Aside0 ((((w16.setCell ⟨gb382,0,none⟩ (.int .i64 ((rd_T29 l0_2 x14_1).f0))).setCell ⟨gb382,1,none⟩ (.int .i64 ((rd_T29 l0_2 x14_1).f1))).setCell ⟨gb382,2,none⟩ (.slice A381_2 ((rd_T29 l0_2 x14_1).f2).length c381_2)).heap[gb382]? = some (.cells #[.int .i64 ((rd_T29 l0_2 x14_1).f0),.int .i64 ((rd_T29 l0_2 x14_1).f1),.slice A381_2 ((rd_T29 l0_2 x14_1).f2).length c381_2] 29 (0,0))):=⟨by (with_reducible repeat (first | refine blk_drewN ?_ _ | refine blk_drew ?_ | refine blk_alloc ?_ _));refine blk_put (cs:=#[.int .i64 ((rd_T29 l0_2 x14_1).f0),.int .i64 ((rd_T29 l0_2 x14_1).f1),.slice none 0 0]) ?_ 2 _ rfl;(with_reducible repeat (first | refine blk_drewN ?_ _ | refine blk_drew ?_ | refine blk_alloc ?_ _));refine blk_put (cs:=#[.int .i64 ((rd_T29 l0_2 x14_1).f0),.int .i64 0,.slice none 0 0]) ?_ 1 _ rfl;(with_reducible repeat (first | refine blk_drewN ?_ _ | refine blk_drew ?_ | refine blk_alloc ?_ _));refine blk_put (cs:=#[.int .i64 0,.int .i64 0,.slice none 0 0]) ?_ 0 _ rfl;(with_reducible repeat (first | refine blk_drewN ?_ _ | refine blk_drew ?_ | refine blk_alloc ?_ _));exact BK382.out⟩
       have n5_:Aside0 (Below w.heap.size w (((w16.setCell ⟨gb382,0,none⟩ (.int .i64 ((rd_T29 l0_2 x14_1).f0))).setCell ⟨gb382,1,none⟩ (.int .i64 ((rd_T29 l0_2 x14_1).f1))).setCell ⟨gb382,2,none⟩ (.slice A381_2 ((rd_T29 l0_2 x14_1).f2).length c381_2))):=⟨by repeat (first | (with_reducible first | exact HB.out | apply below_alloc | apply pw_below_drewN | apply below_drew1 | refine below_set ?_ GE378.out | refine below_set ?_ GE379.out | refine below_set ?_ GE380.out | refine below_set ?_ GE382.out) | exact HB.out)⟩
       (try clear HO_381002)
       (try clear BK378)
       (try clear BK379)
       (try clear BK380)
       (try clear BK382)
       (try clear HB)
       generalize (((w16.setCell ⟨gb382,0,none⟩ (.int .i64 ((rd_T29 l0_2 x14_1).f0))).setCell ⟨gb382,1,none⟩ (.int .i64 ((rd_T29 l0_2 x14_1).f1))).setCell ⟨gb382,2,none⟩ (.slice A381_2 ((rd_T29 l0_2 x14_1).f2).length c381_2)) = w21 at n0_ n1_ n2_ n3_ n4_ n5_ ⊢
       have HO_381002:=n0_
       have BK378:=n1_
       have BK379:=n2_
       have BK380:=n3_
       have BK382:=n4_
       have HB:=n5_
       clear n0_ n1_ n2_ n3_ n4_ n5_
       have n0_:=Aside0.mk (Kd.N_drew HO_381002.out)
       have n1_:=Aside0.mk (blk_drew BK378.out)
       have n2_:=Aside0.mk (blk_drew BK379.out)
       have n3_:=Aside0.mk (blk_drew BK380.out)
       have n4_:=Aside0.mk (blk_drew BK382.out)
       have n5_:=Aside0.mk (below_drew1 HB.out)
       clear HO_381002
       clear BK378
       clear BK379
       clear BK380
       clear BK382
       clear HB
       have HO_381002:=n0_
       have BK378:=n1_
       have BK379:=n2_
       have BK380:=n3_
       have BK382:=n4_
       have HB:=n5_
       clear n0_ n1_ n2_ n3_ n4_ n5_
       refine start_ (n:=8) (S:=fun w'=>w'.cell? ⟨gb380,0,none⟩ = some (.int .i64 a0_0)∧w'.cell? ⟨gb380,1,none⟩ = some (.int .i64 a0_1)∧w'.cell? ⟨gb380,2,none⟩ = some (u381002)∧w'.cell? ⟨gb382,0,none⟩ = some (.int .i64 ((rd_T29 l0_2 x14_1).f0))∧w'.cell? ⟨gb382,1,none⟩ = some (.int .i64 ((rd_T29 l0_2 x14_1).f1))∧w'.cell? ⟨gb382,2,none⟩ = some (.slice A381_2 ((rd_T29 l0_2 x14_1).f2).length c381_2)) (ds:=[7]) #[false,false,false,false,false,false,false,false] (by kernel_rfl) rfl rfl ⟨(blk_cell BK380.out 0).trans rfl,(blk_cell BK380.out 1).trans rfl,(blk_cell BK380.out 2).trans rfl,(blk_cell BK382.out 0).trans rfl,(blk_cell BK382.out 1).trans rfl,(blk_cell BK382.out 2).trans rfl⟩ (fun hHeld=>?_);refine with_tabW impl_copyClock.tab5 impl_copyClock.bits5 (fun HT_ HW_=>?_)
       generalize w21.drew = w22 at HO_381002 BK378 BK379 BK380 BK382 HB hHeld ⊢
       refine pure_ (i:=0) (N:=some 18) (v:=?_) (a':=?_) #[true,false,false,false,false,false,false,false] rfl rfl (any_of HT_.out (by kernel_rfl)) (fun _ _ _ h=>h) (Or.inl ⟨by rfl,?_⟩) ?_ ?_
       rotate_left;·intro w';go_simp;with_reducible rfl
       rotate_left;·simp only [Act.put,List.setIfInBounds_toArray,List.set_cons_zero,List.set_cons_succ,i64_w,i32_w];rfl
       refine take_ (i:=1) (N:=some 19) (v:=?_) (a':=?_) #[true,true,false,false,false,false,false,false] rfl rfl (take_ofW HT_.out HW_.out (by kernel_rfl)) (fun _ _ _ h=>h) (Or.inl ⟨by rfl,?_⟩) hHeld ?_ ?_
       rotate_left;·rintro w' ⟨s0,s1,s2,s3,s4,s5⟩;go_simp;with_reducible rfl
       rotate_left;·simp only [Act.put,List.setIfInBounds_toArray,List.set_cons_zero,List.set_cons_succ,i64_w,i32_w];rfl
       refine take_ (i:=2) (N:=some 20) (v:=?_) (a':=?_) #[true,true,true,false,false,false,false,false] rfl rfl (take_ofW HT_.out HW_.out (by kernel_rfl)) (fun _ _ _ h=>h) (Or.inl ⟨by rfl,?_⟩) hHeld ?_ ?_
       rotate_left;·rintro w' ⟨s0,s1,s2,s3,s4,s5⟩;go_simp;with_reducible rfl
       rotate_left;·simp only [Act.put,List.setIfInBounds_toArray,List.set_cons_zero,List.set_cons_succ,i64_w,i32_w];rfl
       refine one_ (i:=3) (N:=some 21) #[true,true,true,true,false,false,false,false] rfl rfl (one_of HT_.out (by kernel_rfl)) (by decide) (fun K hK=>?_)
       refine goes_ Try.func48 (by kernel_rfl) rfl #[.agg #[.int .i64 ((rd_T29 l0_2 x14_1).f0),.int .i64 ((rd_T29 l0_2 x14_1).f1),.slice A381_2 ((rd_T29 l0_2 x14_1).f2).length c381_2]] (by rfl) rfl rfl (by (try simp only [List.map_toArray,List.map_cons,List.map_nil]);first | done | rfl | (simp only [List.length_drop,List.length_take];rfl)) ?_
       with_reducible refine (ih k1 (by have:=HK1.out;omega) ((rd_T29 l0_2 x14_1).f0) ((rd_T29 l0_2 x14_1).f1) _ _ ((rd_T29 l0_2 x14_1).f2) t383 t384 t385 _ ?side1 ?side2 A14.out).mono ?_
       (case side1=>repeat (first | exact (Kd.C_below HR381_2.out HB.out) | (with_reducible refine Kd.C_alloc ?_ _) | (with_reducible refine Kd.C_drewN ?_ _) | (with_reducible refine Kd.C_drew ?_)))
       (case side2=>exact HC381_2.out)
       rintro e w23 ⟨v386,rfl,ho0,hb⟩
       refine ⟨_,rfl,?_⟩
       have n0_:=Aside0.mk (Kd.N_elder' (by (with_reducible repeat (first | apply Kd.N_alloc | apply Kd.N_drewN | apply Kd.N_drew));exact HO_381002.out) (Kd.N_base ho0) hb)
       have n1_:=Aside0.mk (Kd.N_lower (Kd.N_mono (ok':=fun k_=>(w.heap.size ≤ k_)∧some k_ ≠ (u381002:Value).ownBlock∧k_ ≠ gb378∧k_ ≠ gb379∧k_ ≠ gb380∧k_ ≠ gb382) ho0 (fun k_ hk_=>⟨(Nat.le_trans (below_size (by repeat (first | (with_reducible first | exact HB.out | apply below_alloc | apply pw_below_drewN | apply below_drew1 | refine below_set ?_ GE378.out | refine below_set ?_ GE379.out | refine below_set ?_ GE380.out | refine below_set ?_ GE382.out) | exact HB.out))) hk_),(Kd.fresh' (Kd.N_lt (by (with_reducible repeat (first | apply Kd.N_alloc | apply Kd.N_drewN | apply Kd.N_drew));exact HO_381002.out)) k_ hk_),(Kd.freshB (g:=gb378) (o:=.cells #[.int .i64 a0_0,.int .i64 a0_1,.slice (some ad381) l0_2.length c0_2] 29 (0,0)) (by (with_reducible repeat (first | refine blk_drewN ?_ _ | refine blk_drew ?_ | refine blk_alloc ?_ _));exact BK378.out) k_ hk_),(Kd.freshB (g:=gb379) (o:=.cells #[.int .i64 0,.int .i64 0,.slice none 0 0] 29 (0,0)) (by (with_reducible repeat (first | refine blk_drewN ?_ _ | refine blk_drew ?_ | refine blk_alloc ?_ _));exact BK379.out) k_ hk_),(Kd.freshB (g:=gb380) (o:=.cells #[.int .i64 a0_0,.int .i64 a0_1,u381002] 29 (0,0)) (by (with_reducible repeat (first | refine blk_drewN ?_ _ | refine blk_drew ?_ | refine blk_alloc ?_ _));exact BK380.out) k_ hk_),(Kd.freshB (g:=gb382) (o:=.cells #[.int .i64 ((rd_T29 l0_2 x14_1).f0),.int .i64 ((rd_T29 l0_2 x14_1).f1),.slice A381_2 ((rd_T29 l0_2 x14_1).f2).length c381_2] 29 (0,0)) (by (with_reducible repeat (first | refine blk_drewN ?_ _ | refine blk_drew ?_ | refine blk_alloc ?_ _));exact BK382.out) k_ hk_)⟩)) (below_size (by repeat (first | (with_reducible first | exact HB.out | apply below_alloc | apply pw_below_drewN | apply below_drew1 | refine below_set ?_ GE378.out | refine below_set ?_ GE379.out | refine below_set ?_ GE380.out | refine below_set ?_ GE382.out) | exact HB.out))))
       have n2_:=Aside0.mk (blk_below (g:=gb378) (o:=.cells #[.int .i64 a0_0,.int .i64 a0_1,.slice (some ad381) l0_2.length c0_2] 29 (0,0)) (by (with_reducible repeat (first | refine blk_drewN ?_ _ | refine blk_drew ?_ | refine blk_alloc ?_ _));exact BK378.out) hb)
       have n3_:=Aside0.mk (blk_below (g:=gb379) (o:=.cells #[.int .i64 0,.int .i64 0,.slice none 0 0] 29 (0,0)) (by (with_reducible repeat (first | refine blk_drewN ?_ _ | refine blk_drew ?_ | refine blk_alloc ?_ _));exact BK379.out) hb)
       have n4_:=Aside0.mk (blk_below (g:=gb380) (o:=.cells #[.int .i64 a0_0,.int .i64 a0_1,u381002] 29 (0,0)) (by (with_reducible repeat (first | refine blk_drewN ?_ _ | refine blk_drew ?_ | refine blk_alloc ?_ _));exact BK380.out) hb)
       have n5_:=Aside0.mk (blk_below (g:=gb382) (o:=.cells #[.int .i64 ((rd_T29 l0_2 x14_1).f0),.int .i64 ((rd_T29 l0_2 x14_1).f1),.slice A381_2 ((rd_T29 l0_2 x14_1).f2).length c381_2] 29 (0,0)) (by (with_reducible repeat (first | refine blk_drewN ?_ _ | refine blk_drew ?_ | refine blk_alloc ?_ _));exact BK382.out) hb)
       have n6_:=Aside0.mk (below_step (by repeat (first | (with_reducible first | exact HB.out | apply below_alloc | apply pw_below_drewN | apply below_drew1 | refine below_set ?_ GE378.out | refine below_set ?_ GE379.out | refine below_set ?_ GE380.out | refine below_set ?_ GE382.out) | exact HB.out)) hb)
       clear HO_381002
       clear BK378
       clear BK379
       clear BK380
       clear BK382
       clear HB
       have HO_381002:=n0_
       have HO387:=n1_
       have BK378:=n2_
       have BK379:=n3_
       have BK380:=n4_
       have BK382:=n5_
       have HB:=n6_
       clear n0_ n1_ n2_ n3_ n4_ n5_ n6_
       (try clear hb)
       (try clear hb2)
       (try clear hk)
       (try clear hi)
       (try clear ho0)
       obtain ⟨Ao25,co25,eo25⟩:=Kd.N_slice HO387.out
       (first | subst eo25 | (injection eo25 with f1_ f2_ f3_;have f4_:=f1_.symm;have f5_:=f3_.symm;clear f1_ f2_ f3_;subst f4_;subst f5_))
       refine hK.out _ _ ⟨(blk_cell BK380.out 0).trans rfl,(blk_cell BK380.out 1).trans rfl,(blk_cell BK380.out 2).trans rfl,(blk_cell BK382.out 0).trans rfl,(blk_cell BK382.out 1).trans rfl,(blk_cell BK382.out 2).trans rfl⟩ (fun hHeld=>?_)
       clear hK K
       refine norm_ (a':=?_) ?_ ?_
       rotate_left
       ·show Act.put _ (some 21) _ = _
        simp only [Act.put,List.setIfInBounds_toArray,List.set_cons_zero,List.set_cons_succ,i64_w,i32_w]
        rfl
       refine one_ (i:=4) (N:=some 22) #[true,true,true,true,true,false,false,false] rfl rfl (one_of HT_.out (by kernel_rfl)) (by decide) (fun K hK=>?_)
       refine value_ (w1:=?_) (v:=?_) (by rfl) rfl ?_ ?_
       rotate_left 2
       ·go_simp
        constructor
        ·rfl
        ·rfl
       refine hK.out _ _ ⟨(blk_cell (blk_alloc BK380.out _) 0).trans rfl,(blk_cell (blk_alloc BK380.out _) 1).trans rfl,(blk_cell (blk_alloc BK380.out _) 2).trans rfl,(blk_cell (blk_alloc BK382.out _) 0).trans rfl,(blk_cell (blk_alloc BK382.out _) 1).trans rfl,(blk_cell (blk_alloc BK382.out _) 2).trans rfl⟩ (fun hHeld=>?_)
       clear hK K
       refine norm_ (a':=?_) ?_ ?_
       rotate_left
       ·show Act.put _ (some 22) _ = _
        simp only [Act.put,List.setIfInBounds_toArray,List.set_cons_zero,List.set_cons_succ,i64_w,i32_w]
        rfl
       refine one_ (i:=5) (N:=some 23) #[true,true,true,true,true,true,false,false] rfl rfl (one_of HT_.out (by kernel_rfl)) (by decide) (fun K hK=>?_)
       refine Kd.N_append_step k29 (w0:=w) w.heap.size (by rfl) (.tmp 19) (.tmp 22) 27 29 (.agg #[(.int .i64 0),(.int .i64 0),(.slice none 0 0)]) 40 rfl Try.underlying27 info29 rfl (by decide) (by omega) u381002 x381002_1 (⟨t383,t384,t385⟩:S29) [.int .i64 t383,.int .i64 t384,.slice Ao25 t385.length co25] (fun k_=>(w.heap.size ≤ k_)∧k_ ≠ gb378∧k_ ≠ gb379∧k_ ≠ gb380∧k_ ≠ gb382) (fun k_=>((fun k_=>(w.heap.size ≤ k_)∧k_ ≠ gb378∧k_ ≠ gb379∧k_ ≠ gb380∧k_ ≠ gb382)) k_∧some k_ ≠ (u381002:Value).ownBlock) rfl rfl ?aP (fun _ hk=>hk) ?aF ?aO ?aB ?aS ?aL ?_
       (case aP=>exact (k29_mkF _ _ (⟨t383,t384,t385⟩:S29) (Kd.N_reads' (Kd.N_mono (ok':=(fun k_=>((fun k_=>(w.heap.size ≤ k_)∧k_ ≠ gb378∧k_ ≠ gb379∧k_ ≠ gb380∧k_ ≠ gb382)) k_∧some k_ ≠ (u381002:Value).ownBlock)) (HO387.out) (fun k_ hk=>⟨⟨hk.1,⟨hk.2.2.1,⟨hk.2.2.2.1,⟨hk.2.2.2.2.1,hk.2.2.2.2.2⟩⟩⟩⟩,hk.2.1⟩))).2.1 (Kd.N_F (Kd.N_mono (ok':=(fun k_=>((fun k_=>(w.heap.size ≤ k_)∧k_ ≠ gb378∧k_ ≠ gb379∧k_ ≠ gb380∧k_ ≠ gb382)) k_∧some k_ ≠ (u381002:Value).ownBlock)) (HO387.out) (fun k_ hk=>⟨⟨hk.1,⟨hk.2.2.1,⟨hk.2.2.2.1,⟨hk.2.2.2.2.1,hk.2.2.2.2.2⟩⟩⟩⟩,hk.2.1⟩)))))
       (case aB=>exact (by repeat (first | (with_reducible first | exact HB.out | apply below_alloc | apply pw_below_drewN | apply below_drew1 | refine below_set ?_ GE378.out | refine below_set ?_ GE379.out | refine below_set ?_ GE380.out | refine below_set ?_ GE382.out) | exact HB.out)))
       (case aF=>exact (fun k_ hk=>⟨(Nat.le_trans (below_size (by repeat (first | (with_reducible first | exact HB.out | apply below_alloc | apply pw_below_drewN | apply below_drew1 | refine below_set ?_ GE378.out | refine below_set ?_ GE379.out | refine below_set ?_ GE380.out | refine below_set ?_ GE382.out) | exact HB.out))) hk),Kd.freshB (g:=gb378) (o:=.cells #[.int .i64 a0_0,.int .i64 a0_1,.slice (some ad381) l0_2.length c0_2] 29 (0,0)) (by (with_reducible repeat (first | refine blk_drewN ?_ _ | refine blk_drew ?_ | refine blk_alloc ?_ _));exact BK378.out) k_ hk,Kd.freshB (g:=gb379) (o:=.cells #[.int .i64 0,.int .i64 0,.slice none 0 0] 29 (0,0)) (by (with_reducible repeat (first | refine blk_drewN ?_ _ | refine blk_drew ?_ | refine blk_alloc ?_ _));exact BK379.out) k_ hk,Kd.freshB (g:=gb380) (o:=.cells #[.int .i64 a0_0,.int .i64 a0_1,u381002] 29 (0,0)) (by (with_reducible repeat (first | refine blk_drewN ?_ _ | refine blk_drew ?_ | refine blk_alloc ?_ _));exact BK380.out) k_ hk,Kd.freshB (g:=gb382) (o:=.cells #[.int .i64 ((rd_T29 l0_2 x14_1).f0),.int .i64 ((rd_T29 l0_2 x14_1).f1),.slice A381_2 ((rd_T29 l0_2 x14_1).f2).length c381_2] 29 (0,0)) (by (with_reducible repeat (first | refine blk_drewN ?_ _ | refine blk_drew ?_ | refine blk_alloc ?_ _));exact BK382.out) k_ hk⟩))
       (case aO=>exact (by (with_reducible repeat (first | apply Kd.N_alloc | apply Kd.N_drewN | apply Kd.N_drew));exact Kd.N_mono HO_381002.out (fun _ hk=>⟨hk.1.1,⟨hk.1.2.1,⟨hk.1.2.2.1,⟨hk.1.2.2.2.1,hk.1.2.2.2.2⟩⟩⟩⟩)))
       (case aS=>exact (below_size (by repeat (first | (with_reducible first | exact HB.out | apply below_alloc | apply pw_below_drewN | apply below_drew1 | refine below_set ?_ GE378.out | refine below_set ?_ GE379.out | refine below_set ?_ GE380.out | refine below_set ?_ GE382.out) | exact HB.out))))
       (case aL=>have:=LMc15.out;omega)
       intro v389 w24 ho hb hg hat
       rw [← Ny388.out] at ho
       have n0_:=Aside0.mk (blk_grown (g:=gb378) (o:=.cells #[.int .i64 a0_0,.int .i64 a0_1,.slice (some ad381) l0_2.length c0_2] 29 (0,0)) (by (with_reducible repeat (first | refine blk_drewN ?_ _ | refine blk_drew ?_ | refine blk_alloc ?_ _));exact BK378.out) hg (Kd.N_away HO_381002.out (fun _ hk=>hk.1.2.1)))
       have n1_:=Aside0.mk (blk_grown (g:=gb379) (o:=.cells #[.int .i64 0,.int .i64 0,.slice none 0 0] 29 (0,0)) (by (with_reducible repeat (first | refine blk_drewN ?_ _ | refine blk_drew ?_ | refine blk_alloc ?_ _));exact BK379.out) hg (Kd.N_away HO_381002.out (fun _ hk=>hk.1.2.2.1)))
       have n2_:=Aside0.mk (blk_grown (g:=gb380) (o:=.cells #[.int .i64 a0_0,.int .i64 a0_1,u381002] 29 (0,0)) (by (with_reducible repeat (first | refine blk_drewN ?_ _ | refine blk_drew ?_ | refine blk_alloc ?_ _));exact BK380.out) hg (Kd.N_away HO_381002.out (fun _ hk=>hk.1.2.2.2.1)))
       have n3_:=Aside0.mk (blk_grown (g:=gb382) (o:=.cells #[.int .i64 ((rd_T29 l0_2 x14_1).f0),.int .i64 ((rd_T29 l0_2 x14_1).f1),.slice A381_2 ((rd_T29 l0_2 x14_1).f2).length c381_2] 29 (0,0)) (by (with_reducible repeat (first | refine blk_drewN ?_ _ | refine blk_drew ?_ | refine blk_alloc ?_ _));exact BK382.out) hg (Kd.N_away HO_381002.out (fun _ hk=>hk.1.2.2.2.2)))
       have n4_:=Aside0.mk (hb)
       have n5_:=Aside0.mk (ho)
       clear BK378
       clear BK379
       clear BK380
       clear BK382
       clear HB
       clear HO_381002
       clear HO387
       have BK378:=n0_
       have BK379:=n1_
       have BK380:=n2_
       have BK382:=n3_
       have HB:=n4_
       have HO390:=n5_
       clear n0_ n1_ n2_ n3_ n4_ n5_
       clear ho hb hg hat
       obtain ⟨Ao26,co26,eo26⟩:=Kd.N_slice HO390.out
       (first | subst eo26 | (injection eo26 with f1_ f2_ f3_;have f4_:=f1_.symm;have f5_:=f3_.symm;clear f1_ f2_ f3_;subst f4_;subst f5_))
       refine hK.out _ _ ⟨(blk_cell BK380.out 0).trans rfl,(blk_cell BK380.out 1).trans rfl,(blk_cell BK380.out 2).trans rfl,(blk_cell BK382.out 0).trans rfl,(blk_cell BK382.out 1).trans rfl,(blk_cell BK382.out 2).trans rfl⟩ (fun hHeld=>?_)
       clear hK K
       refine norm_ (a':=?_) ?_ ?_
       rotate_left
       ·show Act.put _ (some 23) _ = _
        simp only [Act.put,List.setIfInBounds_toArray,List.set_cons_zero,List.set_cons_succ,i64_w,i32_w]
        rfl
       refine pure_ (i:=6) (N:=some 24) (v:=?_) (a':=?_) #[true,true,true,true,true,true,true,false] rfl rfl (any_of HT_.out (by kernel_rfl)) (fun _ _ _ h=>h) (Or.inl ⟨by rfl,?_⟩) ?_ ?_
       rotate_left;·intro w';go_simp;with_reducible rfl
       rotate_left;·simp only [Act.put,List.setIfInBounds_toArray,List.set_cons_zero,List.set_cons_succ,i64_w,i32_w];rfl
       refine last_ (i:=7) (N:=none) #[true,true,true,true,true,true,true,true] rfl rfl (one_of HT_.out (by kernel_rfl)) (by decide) (fun K hK=>?_)
       have hs27:w24.cell? ⟨gb380,2,none⟩ = some (u381002):=(blk_cell BK380.out 2).trans rfl
       have hfs27:=blk_frozen BK380.out 2
       have hns27_0:=NB378_380.out
       have hns27_1:=NB379_380.out
       have hns27_3:=NB382_380.out
       have hms27_0:=NB380_378.out
       have hms27_1:=NB380_379.out
       have hms27_3:=NB380_382.out
       refine skip_ (w1:=?_) (by rfl) rfl ?_ ?_
       rotate_left
       ·go_simp
        rfl
       refine hK.out _ _ ?_
       clear hK K
       refine done_ (done_of HT_.out (by kernel_rfl)) ?_
       try go_wp2
       go_roundg k1
       case measure=>have:=HK1.out;omega
       case rel=>exact ⟨(wrap64 (x14_1 + 1)),(y388),(.slice Ao26 y388.length co26),(by first | rfl | (simp;done) | (simp [*];done)),H',⟨by have:=HK1.out;omega⟩,⟨by (with_reducible repeat (first | apply Kd.N_alloc | apply Kd.N_drewN | apply Kd.N_drew));exact Kd.N_mono (Kd.N_far (p:=⟨gb380,2,none⟩) (Kd.N_mono HO390.out (fun k_ hk=>(⟨hk,hk.2.2.2.1⟩:_∧k_ ≠ gb380))) (fun _ hk=>hk.2) (.slice Ao26 y388.length co26)) (fun _ hk=>⟨hk.1.1,⟨hk.1.2.1,⟨hk.1.2.2.1,hk.1.2.2.2.1⟩⟩⟩)⟩,⟨by (with_reducible repeat (first | refine blk_drewN ?_ _ | refine blk_drew ?_ | refine blk_alloc ?_ _));refine blk_far ?_ NB378_380.out _;(with_reducible repeat (first | refine blk_drewN ?_ _ | refine blk_drew ?_ | refine blk_alloc ?_ _));exact BK378.out⟩,⟨by (with_reducible repeat (first | refine blk_drewN ?_ _ | refine blk_drew ?_ | refine blk_alloc ?_ _));refine blk_far ?_ NB379_380.out _;(with_reducible repeat (first | refine blk_drewN ?_ _ | refine blk_drew ?_ | refine blk_alloc ?_ _));exact BK379.out⟩,⟨by (with_reducible repeat (first | refine blk_drewN ?_ _ | refine blk_drew ?_ | refine blk_alloc ?_ _));refine blk_put (cs:=#[.int .i64 a0_0,.int .i64 a0_1,u381002]) ?_ 2 _ rfl;(with_reducible repeat (first | refine blk_drewN ?_ _ | refine blk_drew ?_ | refine blk_alloc ?_ _));exact BK380.out⟩,⟨by repeat (first | (with_reducible first | exact HB.out | apply below_alloc | apply pw_below_drewN | apply below_drew1 | refine below_set ?_ GE378.out | refine below_set ?_ GE379.out | refine below_set ?_ GE380.out | refine below_set ?_ GE382.out) | exact HB.out)⟩⟩
      ·rw [if_neg c15] at H
       exact absurd H (by simp)
     ·rw [if_neg c13] at H
      exact absurd H (by simp)
    ·rw [if_neg c12] at H
     exact absurd H (by simp)
   ·rw [if_neg c11] at H
    have c11b0:decide (x14_1 < (l0_2.length:Int)) = false:=decide_eq_false c11
    clear c11
    simp only [Option.some.injEq,Prod.mk.injEq] at H
    obtain ⟨rfl,rfl,rfl⟩:=H
    have hnb28:=NB380_378.out
    have hnc28:=NB378_380.out
    have hnb29:=NB380_379.out
    have hnc29:=NB379_380.out
    have hcz30_0:wr.cell? ⟨gb380,0,none⟩ = some (.int .i64 a0_0):=(blk_cell BK380.out 0).trans rfl
    have hcz30_1:wr.cell? ⟨gb380,1,none⟩ = some (.int .i64 a0_1):=(blk_cell BK380.out 1).trans rfl
    have hcz30_2:wr.cell? ⟨gb380,2,none⟩ = some (u381002):=(blk_cell BK380.out 2).trans rfl
    have hfz30_0:=blk_frozen BK380.out 0
    have hfz30_1:=blk_frozen BK380.out 1
    have hfz30_2:=blk_frozen BK380.out 2
    have hnb31:=NB379_378.out
    have hnc31:=NB378_379.out
    have hcz32_0:wr.cell? ⟨gb379,0,none⟩ = some (.int .i64 0):=(blk_cell BK379.out 0).trans rfl
    have hcz32_1:wr.cell? ⟨gb379,1,none⟩ = some (.int .i64 0):=(blk_cell BK379.out 1).trans rfl
    have hcz32_2:wr.cell? ⟨gb379,2,none⟩ = some (.slice none 0 0):=(blk_cell BK379.out 2).trans rfl
    have hfz32_0:=blk_frozen BK379.out 0
    have hfz32_1:=blk_frozen BK379.out 1
    have hfz32_2:=blk_frozen BK379.out 2
    obtain ⟨Ao33,co33,eo33⟩:=Kd.N_slice HO_381002.out
    subst eo33
    go_wp2
    refine bodyPost_ret (results_cell_row rfl _ _ gb379 29 #[.int .i64 a0_0,.int .i64 a0_1,.slice Ao33 x381002_1.length co33] (0,0) _ rfl (by (with_reducible repeat (first | refine blk_drewN ?_ _ | refine blk_drew ?_ | refine blk_alloc ?_ _));refine blk_put (cs:=#[.int .i64 a0_0,.int .i64 a0_1,.slice none 0 0]) ?_ 2 _ rfl;(with_reducible repeat (first | refine blk_drewN ?_ _ | refine blk_drew ?_ | refine blk_alloc ?_ _));refine blk_put (cs:=#[.int .i64 a0_0,.int .i64 0,.slice none 0 0]) ?_ 1 _ rfl;(with_reducible repeat (first | refine blk_drewN ?_ _ | refine blk_drew ?_ | refine blk_alloc ?_ _));refine blk_put (cs:=#[.int .i64 0,.int .i64 0,.slice none 0 0]) ?_ 0 _ rfl;(with_reducible repeat (first | refine blk_drewN ?_ _ | refine blk_drew ?_ | refine blk_alloc ?_ _));exact BK379.out) Try.underlying29 rfl (by kernel_rfl)) rfl ?_
    exact ⟨_,by first | rfl | (simp [errW_none,errW_some] <;> rfl) | (simp [*,errW_none,errW_some] <;> rfl),by (with_reducible repeat (first | apply Kd.N_alloc | apply Kd.N_drewN | apply Kd.N_drew));exact Kd.N_mono (Kd.N_far (p:=⟨gb379,2,none⟩) (Kd.N_far (p:=⟨gb379,1,none⟩) (Kd.N_far (p:=⟨gb379,0,none⟩) (Kd.N_mono HO_381002.out (fun k_ hk=>(⟨hk,hk.2.2.1⟩:_∧k_ ≠ gb379))) (fun _ hk=>hk.2) (.int .i64 a0_0)) (fun _ hk=>hk.2) (.int .i64 a0_1)) (fun _ hk=>hk.2) (.slice Ao33 x381002_1.length co33)) (fun _ hk=>hk.1.1),by repeat (first | (with_reducible first | exact HB.out | apply below_alloc | apply pw_below_drewN | apply below_drew1 | refine below_set ?_ GE378.out | refine below_set ?_ GE379.out | refine below_set ?_ GE380.out) | exact HB.out)⟩
def spec_l6Open.f (l0:List Int):Option (List Int × Int):=if (l0.length:Int) > 2000 then (if 2000 ≤ (l0.length:Int) then (some (l0.take 2000,0)) else (none)) else (some (l0,0))
set_option maxHeartbeats 8000000 in
set_option maxRecDepth 100000 in
theorem spec_l6Open.calls (A0:Option Addr) (c0:Nat) (l0:List Int) (r1:List Int) (r2:Int) (w0 w:World) (hB:Below w0.heap.size w0 w) (hr0:Kd.C (Kd.int .u8) w0 A0 l0.length l0) (hc0:l0.length ≤ c0) (h:spec_l6Open.f l0 = some (r1,r2)) :
  Calls Try.prog 45 #[.slice A0 l0.length c0] w fun e w'=>∃ g_:Nat,e = .returned (.pointer (some ⟨g_,0,none⟩))∧IsS67 w0 w' g_ r1 r2∧Below w0.heap.size w0 w'∧Below w.heap.size w w':=by
 have hu67:=Try.underlying67
 have HR0:=Aside0.mk hr0
 have HC0:=Aside0.mk hc0
 clear hr0 hc0
 have HBW:=Aside0.mk (Below.refl w.heap.size w)
 have HW0:=Aside0.mk hB.size
 have HB:=Aside0.mk hB
 clear hB
 have H:(if (l0.length:Int) > 2000 then (if 2000 ≤ (l0.length:Int) then (some (l0.take 2000,0)) else (none)) else (some (l0,0))) = some (r1,r2):=h
 clear h
 by_cases c2:(l0.length:Int) > 2000
 ·rw [if_pos c2] at H
  have c2b0:decide (2000 < (l0.length:Int)) = true:=decide_eq_true c2
  have c2b1:decide (2000 < l0.length) = true:=decide_eq_true (by omega)
  clear c2
  by_cases c3:2000 ≤ (l0.length:Int)
  ·rw [if_pos c3] at H
   have c3b0:=eq_true c3
   have c3b1:decide (2000 ≤ (l0.length:Int)) = true:=decide_eq_true c3
   clear c3
   simp only [Option.some.injEq,Prod.mk.injEq] at H
   obtain ⟨rfl,rfl⟩:=H
   obtain ⟨i04,hi04,_,hsz4,_⟩:=info_parts info5
   obtain ⟨hcut4,hA4,hC4⟩:=print_take_of (P:=Try.prog) (Value.int .u8) 0 33 5 .i64 Try.underlying33 hi04 hsz4 A0 c0 l0 2000 (by omega) (of_decide_eq_true (by first | (with_reducible assumption) | assumption)) HC0.out
   have HR190:=Aside0.mk (Kd.C_of_reads (h1:=fun _=>rfl) (hA4 _ (Kd.reads_of_C HR0.out)))
   have HC190:=Aside0.mk hC4
   clear hA4 hC4 hi04 hsz4
   go_enter Try.func45,Try.ntmps45
   go_wp2_with (first | ((with_reducible refine gate_dst (N:=10) rfl ?_);refine box_event ?hg (N:=10) ?hd (cs:=#[.slice A0 (l0.take 2000).length c0,.int .i64 0]) (t:=67) ?hr ?_;(case hd=>rfl);(case hg=>rfl);(case hr=>first | (go_simp;done) | (go_simp;rfl));intro gb191 hg w5 hbox hb;have n0_:=Aside0.mk (below_step HBW.out hb);have n1_:=Aside0.mk (below_step (by repeat (first | (with_reducible first | exact HB.out | apply below_alloc | apply pw_below_drewN | apply below_drew1) | exact HB.out)) hb);have n2_:=Aside0.mk (hbox);have n3_:=Aside0.mk ((by rw [hg];exact (below_size (by repeat (first | (with_reducible first | exact HBW.out | apply below_alloc | apply pw_below_drewN | apply below_drew1) | exact HBW.out))):w.heap.size ≤ gb191));have n4_:=Aside0.mk ((Nat.le_trans HW0.out (by rw [hg];exact (below_size (by repeat (first | (with_reducible first | exact HBW.out | apply below_alloc | apply pw_below_drewN | apply below_drew1) | exact HBW.out))):w.heap.size ≤ gb191):w0.heap.size ≤ gb191));clear HBW;clear HB;have HBW:=n0_;have HB:=n1_;have BK191:=n2_;have GW191:=n3_;have GE191:=n4_;clear n0_ n1_ n2_ n3_ n4_;clear hb hbox hg))
   go_ret
   exact ⟨_,rfl,(show IsS67 w0 _ gb191 (l0.take 2000) 0 from ⟨_,_,by (with_reducible repeat (first | refine blk_drewN ?_ _ | refine blk_drew ?_ | refine blk_alloc ?_ _));exact BK191.out,GE191.out,HR190.out⟩),by repeat (first | (with_reducible first | exact HB.out | apply below_alloc | apply pw_below_drewN | apply below_drew1 | refine below_set ?_ GE191.out) | exact HB.out),by repeat (first | (with_reducible first | exact HBW.out | apply below_alloc | apply pw_below_drewN | apply below_drew1 | refine below_set ?_ GW191.out) | exact HBW.out)⟩
  ·rw [if_neg c3] at H
   exact absurd H (by simp)
 ·rw [if_neg c2] at H
  have c2b0:decide (2000 < (l0.length:Int)) = false:=decide_eq_false c2
  have c2b1:decide (2000 < l0.length) = false:=decide_eq_false (by omega)
  clear c2
  simp only [Option.some.injEq,Prod.mk.injEq] at H
  obtain ⟨rfl,rfl⟩:=H
  go_enter Try.func45,Try.ntmps45
  go_wp2_with (first | ((with_reducible refine gate_dst (N:=10) rfl ?_);refine box_event ?hg (N:=10) ?hd (cs:=#[.slice A0 l0.length c0,.int .i64 0]) (t:=67) ?hr ?_;(case hd=>rfl);(case hg=>rfl);(case hr=>first | (go_simp;done) | (go_simp;rfl));intro gb192 hg w6 hbox hb;have n0_:=Aside0.mk (below_step HBW.out hb);have n1_:=Aside0.mk (below_step (by repeat (first | (with_reducible first | exact HB.out | apply below_alloc | apply pw_below_drewN | apply below_drew1) | exact HB.out)) hb);have n2_:=Aside0.mk (hbox);have n3_:=Aside0.mk ((by rw [hg];exact (below_size (by repeat (first | (with_reducible first | exact HBW.out | apply below_alloc | apply pw_below_drewN | apply below_drew1) | exact HBW.out))):w.heap.size ≤ gb192));have n4_:=Aside0.mk ((Nat.le_trans HW0.out (by rw [hg];exact (below_size (by repeat (first | (with_reducible first | exact HBW.out | apply below_alloc | apply pw_below_drewN | apply below_drew1) | exact HBW.out))):w.heap.size ≤ gb192):w0.heap.size ≤ gb192));clear HBW;clear HB;have HBW:=n0_;have HB:=n1_;have BK192:=n2_;have GW192:=n3_;have GE192:=n4_;clear n0_ n1_ n2_ n3_ n4_;clear hb hbox hg))
  go_ret
  exact ⟨_,rfl,(show IsS67 w0 _ gb192 l0 0 from ⟨_,_,by (with_reducible repeat (first | refine blk_drewN ?_ _ | refine blk_drew ?_ | refine blk_alloc ?_ _));exact BK192.out,GE192.out,HR0.out⟩),by repeat (first | (with_reducible first | exact HB.out | apply below_alloc | apply pw_below_drewN | apply below_drew1 | refine below_set ?_ GE192.out) | exact HB.out),by repeat (first | (with_reducible first | exact HBW.out | apply below_alloc | apply pw_below_drewN | apply below_drew1 | refine below_set ?_ GW192.out) | exact HBW.out)⟩
def spec_l6Rd_pick.j0:Nat → Int → Bool → List Int → Int → Option (Int × Int)
 | 0,_,_,_,_=>none
 | k + 1,x1,x24,x1000,x1001=>if x24 = true then (some (0,x1001)) else (if (wrap64 (x1001 - 1)) < (x1000.length:Int) then (if 0 ≤ (wrap64 (x1001 - 1)) then (if x1 = 0 then (none) else (some (Int.tmod (wrap64 (rd x1000 (wrap64 (x1001 - 1)))) x1,x1001))) else (none)) else (if (x1000.length:Int) = 0 then (none) else (if 0 ≤ (Int.tmod (wrap64 (x1001 - 1)) (x1000.length:Int)) then (if (Int.tmod (wrap64 (x1001 - 1)) (x1000.length:Int)) < (x1000.length:Int) then (if 0 ≤ (Int.tmod (wrap64 ((wrap64 ((wrap64 (x1001 - 1)) * 7)) + 3)) (x1000.length:Int)) then (if (Int.tmod (wrap64 ((wrap64 ((wrap64 (x1001 - 1)) * 7)) + 3)) (x1000.length:Int)) < (x1000.length:Int) then (if x1 = 0 then (none) else (some (Int.tmod (Go.bits .xor .i64 (wrap64 ((wrap64 ((wrap64 ((wrap64 ((wrap64 (rd x1000 (Int.tmod (wrap64 (x1001 - 1)) (x1000.length:Int)))) * 131)) + (wrap64 ((wrap64 (rd x1000 (Int.tmod (wrap64 ((wrap64 ((wrap64 (x1001 - 1)) * 7)) + 3)) (x1000.length:Int)))) * 1117)))) + (wrap64 ((wrap64 (x1001 - 1)) * 29)))) + (wrap64 ((wrap64 (Int.tdiv (wrap64 (x1001 - 1)) (x1000.length:Int))) * 53)))) (wrap64 (Int.tdiv (wrap64 ((wrap64 ((wrap64 ((wrap64 ((wrap64 (rd x1000 (Int.tmod (wrap64 (x1001 - 1)) (x1000.length:Int)))) * 131)) + (wrap64 ((wrap64 (rd x1000 (Int.tmod (wrap64 ((wrap64 ((wrap64 (x1001 - 1)) * 7)) + 3)) (x1000.length:Int)))) * 1117)))) + (wrap64 ((wrap64 (x1001 - 1)) * 29)))) + (wrap64 ((wrap64 (Int.tdiv (wrap64 (x1001 - 1)) (x1000.length:Int))) * 53)))) 64))) x1,x1001))) else (none)) else (none)) else (none)) else (none))))
def spec_l6Rd_pick.f (k:Nat) (s0_0:List Int) (s0_1:Int) (a1:Int):Option (Int × Int):=if a1 < 1 then (spec_l6Rd_pick.j0 k a1 true s0_0 (wrap64 (s0_1 + 1))) else (spec_l6Rd_pick.j0 k a1 ((s0_0.length:Int) == 0) s0_0 (wrap64 (s0_1 + 1)))
theorem spec_l6Rd_pick.mono_l:∀ k,(∀ y0 y1 y2 y3,LeO (spec_l6Rd_pick.j0 k y0 y1 y2 y3) (spec_l6Rd_pick.j0 (k + 1) y0 y1 y2 y3))
 | 0=>fun _ _ _ _ r h=>by simp [spec_l6Rd_pick.j0] at h
 | k + 1=>by
  have ih0:=spec_l6Rd_pick.mono_l k
  ·intro y0 y1 y2 y3
   unfold spec_l6Rd_pick.j0
   repeat' first
   | (with_reducible exact ih0 _ _ _ _)
   | (with_reducible exact LeO.refl _)
   | (with_reducible exact LeO.none _)
   | (with_reducible refine LeO.ite ?_ ?_)
   | (with_reducible refine LeO.bind ?_ (fun _=>?_))
   | exact ih0 _ _ _ _
   | exact LeO.none _
   | refine LeO.ite ?_ ?_
   | refine LeO.bind ?_ (fun _=>?_)
theorem spec_l6Rd_pick.mono:∀ a0 a1 a2 k,LeO (spec_l6Rd_pick.f k a0 a1 a2) (spec_l6Rd_pick.f (k + 1) a0 a1 a2):=by
 intro a0 a1 a2 k
 have ih0:=spec_l6Rd_pick.mono_l k
 unfold spec_l6Rd_pick.f
 repeat' first
   | (with_reducible exact ih0 _ _ _ _)
   | (with_reducible exact LeO.refl _)
   | (with_reducible exact LeO.none _)
   | (with_reducible refine LeO.ite ?_ ?_)
   | (with_reducible refine LeO.bind ?_ (fun _=>?_))
   | exact ih0 _ _ _ _
   | exact LeO.none _
   | refine LeO.ite ?_ ?_
   | refine LeO.bind ?_ (fun _=>?_)
set_option maxHeartbeats 8000000 in
set_option maxRecDepth 100000 in
theorem spec_l6Rd_pick.calls (k:Nat) (g:Nat) (s0_0:List Int) (s0_1:Int) (a1:Int) (r1:Int) (r2:Int) (w0 w:World) (hI:IsS67 w0 w g s0_0 s0_1) (hB:Below w0.heap.size w0 w) (h:spec_l6Rd_pick.f k s0_0 s0_1 a1 = some (r1,r2)) :
  Calls Try.prog 56 #[.pointer (some ⟨g,0,none⟩),.int .i64 a1] w fun e w'=>e = .returned (.int .i64 r1)∧IsS67 w0 w' g s0_0 r2∧Below w0.heap.size w0 w'∧KeepBut w w' g none:=by
 have HI0:=Aside0.mk hI
 have HK:=Aside0.mk (KeepBut.refl w g none)
 have HL:=Aside0.mk hB.size
 clear hI
 have HW0:=Aside0.mk hB.size
 have HB:=Aside0.mk hB
 clear hB
 have H:(if a1 < 1 then (spec_l6Rd_pick.j0 k a1 true s0_0 (wrap64 (s0_1 + 1))) else (spec_l6Rd_pick.j0 k a1 ((s0_0.length:Int) == 0) s0_0 (wrap64 (s0_1 + 1)))) = some (r1,r2):=h
 clear h
 have HC3:=Aside0.mk H
 clear H
 obtain ⟨ASz4_0,cSz4_0,HGz4,hgz4,HSz4_0⟩:=HI0.out
 have hcz4_0:=cellS67_0 HGz4
 have hcz4_1:=cellS67_1 HGz4
 have hfz4_1:=blk_frozen HGz4 1
 clear HGz4 hgz4
 go_enter Try.func56,Try.ntmps56
 go_upto_region 2 with (fail)
 repeat (go_quiet (fail);go_upto_region 2 with (fail))
 go_cut [24] (fun v24 wc=>∃ (kq:Nat) (x24_2:Bool),v24 = .bool x24_2∧Aside0 (spec_l6Rd_pick.j0 kq a1 x24_2 s0_0 (wrap64 (s0_1 + 1)) = some (r1,r2))∧Aside0 (kq ≤ k)∧Aside0 (IsS67 w0 wc g s0_0 (wrap64 (s0_1 + 1)))∧Aside0 (KeepBut w wc g none)∧Aside0 (Below w0.heap.size w0 wc))
 case first =>
  have H:=HC3.out
  clear HC3
  by_cases c5:a1 < 1
  ·rw [if_pos c5] at H
   have c5b0:decide (a1 < 1) = true:=decide_eq_true c5
   clear c5
   (first | rw [c5b0] | (simp only [i64_w,i32_w];rw [c5b0]) | skip)
   have H':=Aside0.mk H
   clear H
   go_wp2
   repeat (go_quiet (fail);try go_wp2)
   go_meet
   case rel=>exact ⟨_,(true),(by first | rfl | (simp;done) | (simp [*];done)),H',⟨by first | omega | exact Nat.le_refl _⟩,⟨by repeat (first | (with_reducible first | exact HI0.out | apply IsS67.alloc | apply IsS67.drewN | apply IsS67.drew | apply IsS67.set_1) | exact HI0.out)⟩,⟨by repeat (first | (with_reducible first | exact HK.out | apply KeepBut.set_ | apply keep_drewN | apply keep_drew | apply keep_alloc) | exact HK.out)⟩,⟨by repeat (first | (with_reducible first | exact HB.out | apply below_alloc | apply pw_below_drewN | apply below_drew1 | refine below_set ?_ (IsS67.ge HI0.out)) | exact HB.out)⟩⟩
  ·rw [if_neg c5] at H
   have c5b0:decide (a1 < 1) = false:=decide_eq_false c5
   clear c5
   (first | rw [c5b0] | (simp only [i64_w,i32_w];rw [c5b0]) | skip)
   have H':=Aside0.mk H
   clear H
   obtain ⟨ASz6_0,cSz6_0,HGz6,hgz6,HSz6_0⟩:=HI0.out
   have hcz6_0:=cellS67_0 HGz6
   have hcz6_1:=cellS67_1 HGz6
   have hfz6_1:=blk_frozen HGz6 1
   clear HGz6 hgz6
   go_wp2
   repeat (go_quiet (fail);try go_wp2)
   go_meet
   case rel=>exact ⟨_,(((s0_0.length:Int) == 0)),(by first | rfl | (simp;done) | (simp [*];done)),H',⟨by first | omega | exact Nat.le_refl _⟩,⟨by repeat (first | (with_reducible first | exact HI0.out | apply IsS67.alloc | apply IsS67.drewN | apply IsS67.drew | apply IsS67.set_1) | exact HI0.out)⟩,⟨by repeat (first | (with_reducible first | exact HK.out | apply KeepBut.set_ | apply keep_drewN | apply keep_drew | apply keep_alloc) | exact HK.out)⟩,⟨by repeat (first | (with_reducible first | exact HB.out | apply below_alloc | apply pw_below_drewN | apply below_drew1 | refine below_set ?_ (IsS67.ge HI0.out)) | exact HB.out)⟩⟩
 case rest =>
  clear HC3
  try clear p2
  try clear c5
  try clear c5b0
  try clear p6
  try clear hcz4_0
  try clear hcz4_1
  try clear hcz6_0
  try clear hcz6_1
  try clear hfz4_1
  try clear hfz6_1
  obtain ⟨kq,x24_2,rfl,HA,HJ2,HI0,HK,HB⟩:=hcut
  cases kq with
  | zero=>exact absurd HA.out (by simp [spec_l6Rd_pick.j0])
  | succ kj2 =>
   have H:=HA.out
   clear HA
   simp only [spec_l6Rd_pick.j0] at H
   by_cases c7:x24_2 = true
   ·subst c7
    have H1:(some (0,(wrap64 (s0_1 + 1)))) = some (r1,r2):=by rw [if_pos rfl] at H;exact H
    clear H
    have H:=H1
    clear H1
    simp only [Option.some.injEq,Prod.mk.injEq] at H
    obtain ⟨rfl,rfl⟩:=H
    go_wp2
    repeat (go_quiet (fail);try go_wp2)
    go_ret
    exact ⟨by first | rfl | (simp [errW_none,errW_some] <;> rfl) | (simp [*,errW_none,errW_some] <;> rfl),by repeat (first | (with_reducible first | exact HI0.out | apply IsS67.alloc | apply IsS67.drewN | apply IsS67.drew | apply IsS67.set_1) | exact HI0.out),by repeat (first | (with_reducible first | exact HB.out | apply below_alloc | apply pw_below_drewN | apply below_drew1 | refine below_set ?_ (IsS67.ge HI0.out)) | exact HB.out),by repeat (first | (with_reducible first | exact HK.out | apply KeepBut.set_ | apply keep_drewN | apply keep_drew | apply keep_alloc) | exact HK.out)⟩
   ·replace c7:=Bool.eq_false_iff.mpr c7
    subst c7
    have H1:(if (wrap64 ((wrap64 (s0_1 + 1)) - 1)) < (s0_0.length:Int) then (if 0 ≤ (wrap64 ((wrap64 (s0_1 + 1)) - 1)) then (if a1 = 0 then (none) else (some (Int.tmod (wrap64 (rd s0_0 (wrap64 ((wrap64 (s0_1 + 1)) - 1)))) a1,(wrap64 (s0_1 + 1))))) else (none)) else (if (s0_0.length:Int) = 0 then (none) else (if 0 ≤ (Int.tmod (wrap64 ((wrap64 (s0_1 + 1)) - 1)) (s0_0.length:Int)) then (if (Int.tmod (wrap64 ((wrap64 (s0_1 + 1)) - 1)) (s0_0.length:Int)) < (s0_0.length:Int) then (if 0 ≤ (Int.tmod (wrap64 ((wrap64 ((wrap64 ((wrap64 (s0_1 + 1)) - 1)) * 7)) + 3)) (s0_0.length:Int)) then (if (Int.tmod (wrap64 ((wrap64 ((wrap64 ((wrap64 (s0_1 + 1)) - 1)) * 7)) + 3)) (s0_0.length:Int)) < (s0_0.length:Int) then (if a1 = 0 then (none) else (some (Int.tmod (Go.bits .xor .i64 (wrap64 ((wrap64 ((wrap64 ((wrap64 ((wrap64 (rd s0_0 (Int.tmod (wrap64 ((wrap64 (s0_1 + 1)) - 1)) (s0_0.length:Int)))) * 131)) + (wrap64 ((wrap64 (rd s0_0 (Int.tmod (wrap64 ((wrap64 ((wrap64 ((wrap64 (s0_1 + 1)) - 1)) * 7)) + 3)) (s0_0.length:Int)))) * 1117)))) + (wrap64 ((wrap64 ((wrap64 (s0_1 + 1)) - 1)) * 29)))) + (wrap64 ((wrap64 (Int.tdiv (wrap64 ((wrap64 (s0_1 + 1)) - 1)) (s0_0.length:Int))) * 53)))) (wrap64 (Int.tdiv (wrap64 ((wrap64 ((wrap64 ((wrap64 ((wrap64 (rd s0_0 (Int.tmod (wrap64 ((wrap64 (s0_1 + 1)) - 1)) (s0_0.length:Int)))) * 131)) + (wrap64 ((wrap64 (rd s0_0 (Int.tmod (wrap64 ((wrap64 ((wrap64 ((wrap64 (s0_1 + 1)) - 1)) * 7)) + 3)) (s0_0.length:Int)))) * 1117)))) + (wrap64 ((wrap64 ((wrap64 (s0_1 + 1)) - 1)) * 29)))) + (wrap64 ((wrap64 (Int.tdiv (wrap64 ((wrap64 (s0_1 + 1)) - 1)) (s0_0.length:Int))) * 53)))) 64))) a1,(wrap64 (s0_1 + 1))))) else (none)) else (none)) else (none)) else (none)))) = some (r1,r2):=by rw [if_neg (show ¬ (false = true) by decide)] at H;exact H
    clear H
    have H:=H1
    clear H1
    by_cases c8:(wrap64 ((wrap64 (s0_1 + 1)) - 1)) < (s0_0.length:Int)
    ·rw [if_pos c8] at H
     have c8b0:decide ((wrap64 ((wrap64 (s0_1 + 1)) - 1)) < (s0_0.length:Int)) = true:=decide_eq_true c8
     clear c8
     obtain ⟨ji9,hji9⟩:∃ j_:Int,(wrap64 ((wrap64 (s0_1 + 1)) - 1)) = j_:=⟨_,rfl⟩
     replace H:(if 0 ≤ (ji9) then (if a1 = 0 then (none) else (some (Int.tmod (wrap64 (rd s0_0 (ji9))) a1,(wrap64 (s0_1 + 1))))) else (none)) = some (r1,r2):=by first | (rw [hji9] at H;exact H) | (simp only [hji9] at H ⊢;exact H)
     (try rw [hji9] at c8b0)
     have hji9w:(IntKind.i64.wrap ((wrap64 (s0_1 + 1)) - 1)) = ji9:=(i64_w _).trans hji9
     by_cases c10:0 ≤ (ji9)
     ·rw [if_pos c10] at H
      have c10b0:decide (0 ≤ (ji9)) = true:=decide_eq_true c10
      clear c10
      by_cases c11:a1 = 0
      ·rw [if_pos c11] at H
       exact absurd H (by simp)
      ·rw [if_neg c11] at H
       have c11b0:(a1 == 0) = false:=beq_eq_false_iff_ne.mpr c11
       have c11b1:(a1 != 0) = true:=bne_iff_ne.mpr c11
       simp only [Option.some.injEq,Prod.mk.injEq] at H
       obtain ⟨rfl,rfl⟩:=H
       obtain ⟨ASz12_0,cSz12_0,HGz12,hgz12,HSz12_0⟩:=HI0.out
       have hcz12_0:=cellS67_0 HGz12
       have hcz12_1:=cellS67_1 HGz12
       have hfz12_1:=blk_frozen HGz12 1
       clear HGz12 hgz12
       have p193:0 ≤ ((ji9):Int):=of_decide_eq_true (by first | (with_reducible assumption) | assumption)
       have q193:(ji9) < (s0_0.length:Int):=of_decide_eq_true (by first | (with_reducible assumption) | assumption)
       obtain ⟨ad193,e193,hx193_0⟩:=Kd.at_int HSz12_0 (ji9) p193 q193
       cases e193
       replace hx193_0:=pw_cell_below HB.out hx193_0
       replace p193:=eq_true p193
       replace q193:=eq_true q193
       go_wp2
       repeat (go_quiet (fail);try go_wp2)
       go_ret
       exact ⟨by first | rfl | (simp [errW_none,errW_some] <;> rfl) | (simp only [← hji9];first | rfl | (simp [errW_none,errW_some] <;> rfl)) | (simp [*,errW_none,errW_some] <;> rfl),by repeat (first | (with_reducible first | exact HI0.out | apply IsS67.alloc | apply IsS67.drewN | apply IsS67.drew | apply IsS67.set_1) | exact HI0.out),by repeat (first | (with_reducible first | exact HB.out | apply below_alloc | apply pw_below_drewN | apply below_drew1 | refine below_set ?_ (IsS67.ge HI0.out)) | exact HB.out),by repeat (first | (with_reducible first | exact HK.out | apply KeepBut.set_ | apply keep_drewN | apply keep_drew | apply keep_alloc) | exact HK.out)⟩
     ·rw [if_neg c10] at H
      exact absurd H (by simp)
    ·rw [if_neg c8] at H
     have c8b0:decide ((wrap64 ((wrap64 (s0_1 + 1)) - 1)) < (s0_0.length:Int)) = false:=decide_eq_false c8
     clear c8
     by_cases c13:(s0_0.length:Int) = 0
     ·rw [if_pos c13] at H
      exact absurd H (by simp)
     ·rw [if_neg c13] at H
      have c13b0:((s0_0.length:Int) == 0) = false:=beq_eq_false_iff_ne.mpr c13
      have c13b1:((s0_0.length:Int) != 0) = true:=bne_iff_ne.mpr c13
      have c13b2:¬ (s0_0 = []):=fun h_=>c13 (by rw [h_];rfl)
      obtain ⟨ji14,hji14⟩:∃ j_:Int,(Int.tmod (wrap64 ((wrap64 (s0_1 + 1)) - 1)) (s0_0.length:Int)) = j_:=⟨_,rfl⟩
      replace H:(if 0 ≤ (ji14) then (if (ji14) < (s0_0.length:Int) then (if 0 ≤ (Int.tmod (wrap64 ((wrap64 ((wrap64 ((wrap64 (s0_1 + 1)) - 1)) * 7)) + 3)) (s0_0.length:Int)) then (if (Int.tmod (wrap64 ((wrap64 ((wrap64 ((wrap64 (s0_1 + 1)) - 1)) * 7)) + 3)) (s0_0.length:Int)) < (s0_0.length:Int) then (if a1 = 0 then (none) else (some (Int.tmod (Go.bits .xor .i64 (wrap64 ((wrap64 ((wrap64 ((wrap64 ((wrap64 (rd s0_0 (ji14))) * 131)) + (wrap64 ((wrap64 (rd s0_0 (Int.tmod (wrap64 ((wrap64 ((wrap64 ((wrap64 (s0_1 + 1)) - 1)) * 7)) + 3)) (s0_0.length:Int)))) * 1117)))) + (wrap64 ((wrap64 ((wrap64 (s0_1 + 1)) - 1)) * 29)))) + (wrap64 ((wrap64 (Int.tdiv (wrap64 ((wrap64 (s0_1 + 1)) - 1)) (s0_0.length:Int))) * 53)))) (wrap64 (Int.tdiv (wrap64 ((wrap64 ((wrap64 ((wrap64 ((wrap64 (rd s0_0 (ji14))) * 131)) + (wrap64 ((wrap64 (rd s0_0 (Int.tmod (wrap64 ((wrap64 ((wrap64 ((wrap64 (s0_1 + 1)) - 1)) * 7)) + 3)) (s0_0.length:Int)))) * 1117)))) + (wrap64 ((wrap64 ((wrap64 (s0_1 + 1)) - 1)) * 29)))) + (wrap64 ((wrap64 (Int.tdiv (wrap64 ((wrap64 (s0_1 + 1)) - 1)) (s0_0.length:Int))) * 53)))) 64))) a1,(wrap64 (s0_1 + 1))))) else (none)) else (none)) else (none)) else (none)) = some (r1,r2):=by first | (rw [hji14] at H;exact H) | (simp only [hji14] at H ⊢;exact H)
      by_cases c15:0 ≤ (ji14)
      ·rw [if_pos c15] at H
       have c15b0:decide (0 ≤ (ji14)) = true:=decide_eq_true c15
       clear c15
       by_cases c16:(ji14) < (s0_0.length:Int)
       ·rw [if_pos c16] at H
        have c16b0:decide ((ji14) < (s0_0.length:Int)) = true:=decide_eq_true c16
        clear c16
        obtain ⟨ji17,hji17⟩:∃ j_:Int,(Int.tmod (wrap64 ((wrap64 ((wrap64 ((wrap64 (s0_1 + 1)) - 1)) * 7)) + 3)) (s0_0.length:Int)) = j_:=⟨_,rfl⟩
        replace H:(if 0 ≤ (ji17) then (if (ji17) < (s0_0.length:Int) then (if a1 = 0 then (none) else (some (Int.tmod (Go.bits .xor .i64 (wrap64 ((wrap64 ((wrap64 ((wrap64 ((wrap64 (rd s0_0 (ji14))) * 131)) + (wrap64 ((wrap64 (rd s0_0 (ji17))) * 1117)))) + (wrap64 ((wrap64 ((wrap64 (s0_1 + 1)) - 1)) * 29)))) + (wrap64 ((wrap64 (Int.tdiv (wrap64 ((wrap64 (s0_1 + 1)) - 1)) (s0_0.length:Int))) * 53)))) (wrap64 (Int.tdiv (wrap64 ((wrap64 ((wrap64 ((wrap64 ((wrap64 (rd s0_0 (ji14))) * 131)) + (wrap64 ((wrap64 (rd s0_0 (ji17))) * 1117)))) + (wrap64 ((wrap64 ((wrap64 (s0_1 + 1)) - 1)) * 29)))) + (wrap64 ((wrap64 (Int.tdiv (wrap64 ((wrap64 (s0_1 + 1)) - 1)) (s0_0.length:Int))) * 53)))) 64))) a1,(wrap64 (s0_1 + 1))))) else (none)) else (none)) = some (r1,r2):=by first | (rw [hji17] at H;exact H) | (simp only [hji17] at H ⊢;exact H)
        by_cases c18:0 ≤ (ji17)
        ·rw [if_pos c18] at H
         have c18b0:decide (0 ≤ (ji17)) = true:=decide_eq_true c18
         clear c18
         by_cases c19:(ji17) < (s0_0.length:Int)
         ·rw [if_pos c19] at H
          have c19b0:decide ((ji17) < (s0_0.length:Int)) = true:=decide_eq_true c19
          clear c19
          by_cases c20:a1 = 0
          ·rw [if_pos c20] at H
           exact absurd H (by simp)
          ·rw [if_neg c20] at H
           have c20b0:(a1 == 0) = false:=beq_eq_false_iff_ne.mpr c20
           have c20b1:(a1 != 0) = true:=bne_iff_ne.mpr c20
           simp only [Option.some.injEq,Prod.mk.injEq] at H
           obtain ⟨rfl,rfl⟩:=H
           obtain ⟨ASz21_0,cSz21_0,HGz21,hgz21,HSz21_0⟩:=HI0.out
           have hcz21_0:=cellS67_0 HGz21
           have hcz21_1:=cellS67_1 HGz21
           have hfz21_1:=blk_frozen HGz21 1
           clear HGz21 hgz21
           have p194:0 ≤ ((ji14):Int):=of_decide_eq_true (by first | (with_reducible assumption) | assumption)
           have q194:(ji14) < (s0_0.length:Int):=of_decide_eq_true (by first | (with_reducible assumption) | assumption)
           obtain ⟨ad194,e194,hx194_0⟩:=Kd.at_int HSz21_0 (ji14) p194 q194
           cases e194
           replace hx194_0:=pw_cell_below HB.out hx194_0
           replace p194:=eq_true p194
           replace q194:=eq_true q194
           have p195:0 ≤ ((ji17):Int):=of_decide_eq_true (by first | (with_reducible assumption) | assumption)
           have q195:(ji17) < (s0_0.length:Int):=of_decide_eq_true (by first | (with_reducible assumption) | assumption)
           obtain ⟨ad195,e195,hx195_0⟩:=Kd.at_int HSz21_0 (ji17) p195 q195
           obtain rfl:ad194 = ad195:=(by injection e195)
           replace hx195_0:=pw_cell_below HB.out hx195_0
           replace p195:=eq_true p195
           replace q195:=eq_true q195
           go_wp2
           repeat (go_quiet (fail);try go_wp2)
           go_ret
           exact ⟨by first | rfl | (simp [errW_none,errW_some] <;> rfl) | (simp only [← hji14,← hji17];first | rfl | (simp [errW_none,errW_some] <;> rfl)) | (simp [*,errW_none,errW_some] <;> rfl),by repeat (first | (with_reducible first | exact HI0.out | apply IsS67.alloc | apply IsS67.drewN | apply IsS67.drew | apply IsS67.set_1) | exact HI0.out),by repeat (first | (with_reducible first | exact HB.out | apply below_alloc | apply pw_below_drewN | apply below_drew1 | refine below_set ?_ (IsS67.ge HI0.out)) | exact HB.out),by repeat (first | (with_reducible first | exact HK.out | apply KeepBut.set_ | apply keep_drewN | apply keep_drew | apply keep_alloc) | exact HK.out)⟩
         ·rw [if_neg c19] at H
          exact absurd H (by simp)
        ·rw [if_neg c18] at H
         exact absurd H (by simp)
       ·rw [if_neg c16] at H
        exact absurd H (by simp)
      ·rw [if_neg c15] at H
       exact absurd H (by simp)
def spec_l91Do.f (k:Nat) (s0_0:List Int) (s0_1:Int):Option (Int × Int):=(spec_l6Rd_pick.f k s0_0 s0_1 3).bind fun bt196=>(if bt196.1 > 0 then ((spec_l6Rd_pick.f k s0_0 bt196.2 5).bind fun bt198=>(some (wrap64 (bt198.1 - 2),bt198.2))) else ((spec_l6Rd_pick.f k s0_0 bt196.2 9).bind fun bt200=>(some (wrap64 (bt200.1 - 4),bt200.2))))
theorem spec_l91Do.mono:∀ a0 a1 k,LeO (spec_l91Do.f k a0 a1) (spec_l91Do.f (k + 1) a0 a1):=by
 intro a0 a1 k
 unfold spec_l91Do.f
 repeat' first
   | (with_reducible exact spec_l6Rd_pick.mono _ _ _ _)
   | (with_reducible exact LeO.refl _)
   | (with_reducible exact LeO.none _)
   | (with_reducible refine LeO.ite ?_ ?_)
   | (with_reducible refine LeO.bind ?_ (fun _=>?_))
   | exact spec_l6Rd_pick.mono _ _ _ _
   | exact LeO.none _
   | refine LeO.ite ?_ ?_
   | refine LeO.bind ?_ (fun _=>?_)
set_option maxHeartbeats 8000000 in
set_option maxRecDepth 100000 in
theorem spec_l91Do.calls (k:Nat) (g:Nat) (s0_0:List Int) (s0_1:Int) (r1:Int) (r2:Int) (w0 w:World) (hI:IsS67 w0 w g s0_0 s0_1) (hB:Below w0.heap.size w0 w) (h:spec_l91Do.f k s0_0 s0_1 = some (r1,r2)) :
  Calls Try.prog 70 #[.pointer (some ⟨g,0,none⟩)] w fun e w'=>e = .returned (.int .i64 r1)∧IsS67 w0 w' g s0_0 r2∧Below w0.heap.size w0 w'∧KeepBut w w' g none:=by
 have HI0:=Aside0.mk hI
 have HK:=Aside0.mk (KeepBut.refl w g none)
 have HL:=Aside0.mk hB.size
 clear hI
 have HW0:=Aside0.mk hB.size
 have HB:=Aside0.mk hB
 clear hB
 have H:((spec_l6Rd_pick.f k s0_0 s0_1 3).bind fun bt196=>(if bt196.1 > 0 then ((spec_l6Rd_pick.f k s0_0 bt196.2 5).bind fun bt198=>(some (wrap64 (bt198.1 - 2),bt198.2))) else ((spec_l6Rd_pick.f k s0_0 bt196.2 9).bind fun bt200=>(some (wrap64 (bt200.1 - 4),bt200.2))))) = some (r1,r2):=h
 clear h
 replace H:=Option.bind_eq_some_iff.mp H
 obtain ⟨⟨t196,t197⟩,A20,H⟩:=H
 replace H:(if t196 > 0 then ((spec_l6Rd_pick.f k s0_0 t197 5).bind fun bt198=>(some (wrap64 (bt198.1 - 2),bt198.2))) else ((spec_l6Rd_pick.f k s0_0 t197 9).bind fun bt200=>(some (wrap64 (bt200.1 - 4),bt200.2)))) = some (r1,r2):=H
 have A2:=Aside0.mk A20
 clear A20
 by_cases c3:t196 > 0
 ·rw [if_pos c3] at H
  have c3b0:decide (0 < t196) = true:=decide_eq_true c3
  clear c3
  replace H:=Option.bind_eq_some_iff.mp H
  obtain ⟨⟨t198,t199⟩,A40,H⟩:=H
  replace H:(some (wrap64 (t198 - 2),t199)) = some (r1,r2):=H
  have A4:=Aside0.mk A40
  clear A40
  simp only [Option.some.injEq,Prod.mk.injEq] at H
  obtain ⟨rfl,rfl⟩:=H
  go_enter Try.func70,Try.ntmps70
  go_wp2_with (first | ((with_reducible refine gate_callee (f:=56) rfl ?_);refine goesL_ (some 4) rfl rfl Try.func56 (by kernel_rfl) rfl #[.pointer (some ⟨g,0,none⟩),.int .i64 3] rfl (by (try simp only [List.map_toArray,List.map_cons,List.map_nil]);first | done | rfl | (simp only [List.length_drop,List.length_take];rfl)) ?_;(with_reducible refine (spec_l6Rd_pick.calls k g s0_0 s0_1 3 t196 t197 w0 _ ?side1 ?side2 A2.out).mono ?_);(case side1=>repeat (first | (with_reducible first | exact HI0.out | apply IsS67.alloc | apply IsS67.drewN | apply IsS67.drew | apply IsS67.set_1) | exact HI0.out));(case side2=>repeat (first | (with_reducible first | exact HB.out | apply below_alloc | apply pw_below_drewN | apply below_drew1 | refine below_set ?_ (IsS67.ge HI0.out)) | exact HB.out));rintro e w5 ⟨rfl,hi,hb,hk⟩;refine ⟨_,rfl,?_⟩;have n0_:=Aside0.mk (KeepBut.trans (by repeat (first | (with_reducible first | exact HK.out | apply KeepBut.set_ | apply keep_drewN | apply keep_drew | apply keep_alloc) | exact HK.out)) hk (.inl rfl));have n1_:=Aside0.mk (hb);have n2_:=Aside0.mk (hi);clear HK;clear HB;clear HI0;have HK:=n0_;have HB:=n1_;have HI0:=n2_;clear n0_ n1_ n2_;(try clear hb);(try clear hb2);(try clear hk);(try clear hi)) | ((with_reducible refine gate_callee (f:=56) rfl ?_);refine goesL_ (some 7) rfl rfl Try.func56 (by kernel_rfl) rfl #[.pointer (some ⟨g,0,none⟩),.int .i64 5] rfl (by (try simp only [List.map_toArray,List.map_cons,List.map_nil]);first | done | rfl | (simp only [List.length_drop,List.length_take];rfl)) ?_;(with_reducible refine (spec_l6Rd_pick.calls k g s0_0 t197 5 t198 t199 w0 _ ?side1 ?side2 A4.out).mono ?_);(case side1=>repeat (first | (with_reducible first | exact HI0.out | apply IsS67.alloc | apply IsS67.drewN | apply IsS67.drew | apply IsS67.set_1) | exact HI0.out));(case side2=>repeat (first | (with_reducible first | exact HB.out | apply below_alloc | apply pw_below_drewN | apply below_drew1 | refine below_set ?_ (IsS67.ge HI0.out)) | exact HB.out));rintro e w6 ⟨rfl,hi,hb,hk⟩;refine ⟨_,rfl,?_⟩;have n0_:=Aside0.mk (KeepBut.trans (by repeat (first | (with_reducible first | exact HK.out | apply KeepBut.set_ | apply keep_drewN | apply keep_drew | apply keep_alloc) | exact HK.out)) hk (.inl rfl));have n1_:=Aside0.mk (hb);have n2_:=Aside0.mk (hi);clear HK;clear HB;clear HI0;have HK:=n0_;have HB:=n1_;have HI0:=n2_;clear n0_ n1_ n2_;(try clear hb);(try clear hb2);(try clear hk);(try clear hi)))
  go_ret
  exact ⟨by first | rfl | (simp [errW_none,errW_some] <;> rfl) | (simp [*,errW_none,errW_some] <;> rfl),by repeat (first | (with_reducible first | exact HI0.out | apply IsS67.alloc | apply IsS67.drewN | apply IsS67.drew | apply IsS67.set_1) | exact HI0.out),by repeat (first | (with_reducible first | exact HB.out | apply below_alloc | apply pw_below_drewN | apply below_drew1 | refine below_set ?_ (IsS67.ge HI0.out)) | exact HB.out),by repeat (first | (with_reducible first | exact HK.out | apply KeepBut.set_ | apply keep_drewN | apply keep_drew | apply keep_alloc) | exact HK.out)⟩
 ·rw [if_neg c3] at H
  have c3b0:decide (0 < t196) = false:=decide_eq_false c3
  clear c3
  replace H:=Option.bind_eq_some_iff.mp H
  obtain ⟨⟨t200,t201⟩,A70,H⟩:=H
  replace H:(some (wrap64 (t200 - 4),t201)) = some (r1,r2):=H
  have A7:=Aside0.mk A70
  clear A70
  simp only [Option.some.injEq,Prod.mk.injEq] at H
  obtain ⟨rfl,rfl⟩:=H
  go_enter Try.func70,Try.ntmps70
  go_wp2_with (first | ((with_reducible refine gate_callee (f:=56) rfl ?_);refine goesL_ (some 4) rfl rfl Try.func56 (by kernel_rfl) rfl #[.pointer (some ⟨g,0,none⟩),.int .i64 3] rfl (by (try simp only [List.map_toArray,List.map_cons,List.map_nil]);first | done | rfl | (simp only [List.length_drop,List.length_take];rfl)) ?_;(with_reducible refine (spec_l6Rd_pick.calls k g s0_0 s0_1 3 t196 t197 w0 _ ?side1 ?side2 A2.out).mono ?_);(case side1=>repeat (first | (with_reducible first | exact HI0.out | apply IsS67.alloc | apply IsS67.drewN | apply IsS67.drew | apply IsS67.set_1) | exact HI0.out));(case side2=>repeat (first | (with_reducible first | exact HB.out | apply below_alloc | apply pw_below_drewN | apply below_drew1 | refine below_set ?_ (IsS67.ge HI0.out)) | exact HB.out));rintro e w8 ⟨rfl,hi,hb,hk⟩;refine ⟨_,rfl,?_⟩;have n0_:=Aside0.mk (KeepBut.trans (by repeat (first | (with_reducible first | exact HK.out | apply KeepBut.set_ | apply keep_drewN | apply keep_drew | apply keep_alloc) | exact HK.out)) hk (.inl rfl));have n1_:=Aside0.mk (hb);have n2_:=Aside0.mk (hi);clear HK;clear HB;clear HI0;have HK:=n0_;have HB:=n1_;have HI0:=n2_;clear n0_ n1_ n2_;(try clear hb);(try clear hb2);(try clear hk);(try clear hi)) | ((with_reducible refine gate_callee (f:=56) rfl ?_);refine goesL_ (some 10) rfl rfl Try.func56 (by kernel_rfl) rfl #[.pointer (some ⟨g,0,none⟩),.int .i64 9] rfl (by (try simp only [List.map_toArray,List.map_cons,List.map_nil]);first | done | rfl | (simp only [List.length_drop,List.length_take];rfl)) ?_;(with_reducible refine (spec_l6Rd_pick.calls k g s0_0 t197 9 t200 t201 w0 _ ?side1 ?side2 A7.out).mono ?_);(case side1=>repeat (first | (with_reducible first | exact HI0.out | apply IsS67.alloc | apply IsS67.drewN | apply IsS67.drew | apply IsS67.set_1) | exact HI0.out));(case side2=>repeat (first | (with_reducible first | exact HB.out | apply below_alloc | apply pw_below_drewN | apply below_drew1 | refine below_set ?_ (IsS67.ge HI0.out)) | exact HB.out));rintro e w9 ⟨rfl,hi,hb,hk⟩;refine ⟨_,rfl,?_⟩;have n0_:=Aside0.mk (KeepBut.trans (by repeat (first | (with_reducible first | exact HK.out | apply KeepBut.set_ | apply keep_drewN | apply keep_drew | apply keep_alloc) | exact HK.out)) hk (.inl rfl));have n1_:=Aside0.mk (hb);have n2_:=Aside0.mk (hi);clear HK;clear HB;clear HI0;have HK:=n0_;have HB:=n1_;have HI0:=n2_;clear n0_ n1_ n2_;(try clear hb);(try clear hb2);(try clear hk);(try clear hi)))
  go_ret
  exact ⟨by first | rfl | (simp [errW_none,errW_some] <;> rfl) | (simp [*,errW_none,errW_some] <;> rfl),by repeat (first | (with_reducible first | exact HI0.out | apply IsS67.alloc | apply IsS67.drewN | apply IsS67.drew | apply IsS67.set_1) | exact HI0.out),by repeat (first | (with_reducible first | exact HB.out | apply below_alloc | apply pw_below_drewN | apply below_drew1 | refine below_set ?_ (IsS67.ge HI0.out)) | exact HB.out),by repeat (first | (with_reducible first | exact HK.out | apply KeepBut.set_ | apply keep_drewN | apply keep_drew | apply keep_alloc) | exact HK.out)⟩
def spec_l91Act.f (k:Nat) (s0_0:List Int) (s0_1:Int):Option (Int × Int):=(spec_l6Rd_pick.f k s0_0 s0_1 30).bind fun bt202=>(if bt202.1 = 0 then ((some (([5,(-5),4611686018427387904]:List Int):List Int)).bind fun y204=>((spec_l6Rd_pick.f k s0_0 bt202.2 3).bind fun bt207=>(if 0 ≤ bt207.1 then (if bt207.1 < (y204.length:Int) then (some (rd y204 bt207.1,bt207.2)) else (none)) else (none)))) else ((spec_l91Do.f k s0_0 bt202.2).bind fun bt210=>(some (bt210.1,bt210.2))))
theorem spec_l91Act.mono:∀ a0 a1 k,LeO (spec_l91Act.f k a0 a1) (spec_l91Act.f (k + 1) a0 a1):=by
 intro a0 a1 k
 unfold spec_l91Act.f
 repeat' first
   | (with_reducible exact spec_l6Rd_pick.mono _ _ _ _)
   | (with_reducible exact spec_l91Do.mono _ _ _)
   | (with_reducible exact LeO.refl _)
   | (with_reducible exact LeO.none _)
   | (with_reducible refine LeO.ite ?_ ?_)
   | (with_reducible refine LeO.bind ?_ (fun _=>?_))
   | exact spec_l6Rd_pick.mono _ _ _ _
   | exact spec_l91Do.mono _ _ _
   | exact LeO.none _
   | refine LeO.ite ?_ ?_
   | refine LeO.bind ?_ (fun _=>?_)
set_option maxHeartbeats 8000000 in
set_option maxRecDepth 100000 in
theorem spec_l91Act.calls (k:Nat) (g:Nat) (s0_0:List Int) (s0_1:Int) (r1:Int) (r2:Int) (w0 w:World) (hI:IsS67 w0 w g s0_0 s0_1) (hB:Below w0.heap.size w0 w) (h:spec_l91Act.f k s0_0 s0_1 = some (r1,r2)) :
  Calls Try.prog 68 #[.pointer (some ⟨g,0,none⟩)] w fun e w'=>e = .returned (.int .i64 r1)∧IsS67 w0 w' g s0_0 r2∧Below w0.heap.size w0 w'∧KeepBut w w' g none:=by
 have HI0:=Aside0.mk hI
 have HK:=Aside0.mk (KeepBut.refl w g none)
 have HL:=Aside0.mk hB.size
 clear hI
 have HW0:=Aside0.mk hB.size
 have HB:=Aside0.mk hB
 clear hB
 have H:((spec_l6Rd_pick.f k s0_0 s0_1 30).bind fun bt202=>(if bt202.1 = 0 then ((some (([5,(-5),4611686018427387904]:List Int):List Int)).bind fun y204=>((spec_l6Rd_pick.f k s0_0 bt202.2 3).bind fun bt207=>(if 0 ≤ bt207.1 then (if bt207.1 < (y204.length:Int) then (some (rd y204 bt207.1,bt207.2)) else (none)) else (none)))) else ((spec_l91Do.f k s0_0 bt202.2).bind fun bt210=>(some (bt210.1,bt210.2))))) = some (r1,r2):=h
 clear h
 replace H:=Option.bind_eq_some_iff.mp H
 obtain ⟨⟨t202,t203⟩,A20,H⟩:=H
 replace H:(if t202 = 0 then ((some (([5,(-5),4611686018427387904]:List Int):List Int)).bind fun y204=>((spec_l6Rd_pick.f k s0_0 t203 3).bind fun bt207=>(if 0 ≤ bt207.1 then (if bt207.1 < (y204.length:Int) then (some (rd y204 bt207.1,bt207.2)) else (none)) else (none)))) else ((spec_l91Do.f k s0_0 t203).bind fun bt210=>(some (bt210.1,bt210.2)))) = some (r1,r2):=H
 have A2:=Aside0.mk A20
 clear A20
 by_cases c3:t202 = 0
 ·rw [if_pos c3] at H
  have c3b0:(t202 == 0) = true:=beq_iff_eq.mpr c3
  have c3b1:(t202 != 0) = false:=bne_eq_false_iff_eq.mpr c3
  clear c3
  obtain ⟨y204,hy204⟩:∃ y_:List Int,y_ = (([5,(-5),4611686018427387904]:List Int)):=⟨_,rfl⟩
  replace H:((spec_l6Rd_pick.f k s0_0 t203 3).bind fun bt207=>(if 0 ≤ bt207.1 then (if bt207.1 < (y204.length:Int) then (some (rd y204 bt207.1,bt207.2)) else (none)) else (none))) = some (r1,r2):=by first | (rw [hy204];with_reducible exact H) | (have H2_:=(Option.bind_some _ _).symm.trans H;rw [hy204];with_reducible exact H2_) | (have H2_:=(Option.bind_some _ _).symm.trans H;with_reducible exact H2_) | with_reducible exact H | (rw [hy204];exact H) | exact H
  have Ny204:=Aside0.mk hy204
  clear hy204
  replace H:=Option.bind_eq_some_iff.mp H
  obtain ⟨⟨t207,t208⟩,A40,H⟩:=H
  replace H:(if 0 ≤ t207 then (if t207 < (y204.length:Int) then (some (rd y204 t207,t208)) else (none)) else (none)) = some (r1,r2):=H
  have A4:=Aside0.mk A40
  clear A40
  by_cases c5:0 ≤ t207
  ·rw [if_pos c5] at H
   have c5b0:decide (0 ≤ t207) = true:=decide_eq_true c5
   clear c5
   by_cases c6:t207 < (y204.length:Int)
   ·rw [if_pos c6] at H
    have c6b0:decide (t207 < (y204.length:Int)) = true:=decide_eq_true c6
    clear c6
    simp only [Option.some.injEq,Prod.mk.injEq] at H
    obtain ⟨rfl,rfl⟩:=H
    go_enter Try.func68,Try.ntmps68
    go_wp2_with (first | ((with_reducible refine gate_callee (f:=56) rfl ?_);refine goesL_ (some 4) rfl rfl Try.func56 (by kernel_rfl) rfl #[.pointer (some ⟨g,0,none⟩),.int .i64 30] rfl (by (try simp only [List.map_toArray,List.map_cons,List.map_nil]);first | done | rfl | (simp only [List.length_drop,List.length_take];rfl)) ?_;(with_reducible refine (spec_l6Rd_pick.calls k g s0_0 s0_1 30 t202 t203 w0 _ ?side1 ?side2 A2.out).mono ?_);(case side1=>repeat (first | (with_reducible first | exact HI0.out | apply IsS67.alloc | apply IsS67.drewN | apply IsS67.drew | apply IsS67.set_1) | exact HI0.out));(case side2=>repeat (first | (with_reducible first | exact HB.out | apply below_alloc | apply pw_below_drewN | apply below_drew1 | refine below_set ?_ (IsS67.ge HI0.out)) | exact HB.out));rintro e w7 ⟨rfl,hi,hb,hk⟩;refine ⟨_,rfl,?_⟩;have n0_:=Aside0.mk (KeepBut.trans (by repeat (first | (with_reducible first | exact HK.out | apply KeepBut.set_ | apply keep_drewN | apply keep_drew | apply keep_alloc) | exact HK.out)) hk (.inl rfl));have n1_:=Aside0.mk (hb);have n2_:=Aside0.mk (hi);clear HK;clear HB;clear HI0;have HK:=n0_;have HB:=n1_;have HI0:=n2_;clear n0_ n1_ n2_;(try clear hb);(try clear hb2);(try clear hk);(try clear hi)) | ((with_reducible refine gate_dst (N:=6) rfl ?_);refine Kd.R_lit (Kd.int .i64) _ 3 ?hg (N:=6) ?hd (xs:=([5,(-5),4611686018427387904]:List Int)) (inner:=[.int .i64 5,.int .i64 (-5),.int .i64 4611686018427387904]) (ok:=fun _=>True) (okp:=fun _=>True) ?hr ?hp (fun _ hk=>hk) trivial (Below.refl _ _) (Nat.le_refl _) (by simp) ?_;(case hd=>rfl);(case hg=>rfl);(case hr=>first | (go_simp;done) | (go_simp;rfl));(case hp=>exact (Reps.one (show Kd.M (Kd.int .i64) _ _ _ 5 [.int .i64 5] from rfl) (Reps.one (show Kd.M (Kd.int .i64) _ _ _ (-5) [.int .i64 (-5)] from rfl) (Reps.one (show Kd.M (Kd.int .i64) _ _ _ 4611686018427387904 [.int .i64 4611686018427387904] from rfl) (Reps.none _ _)))));intro v205 w8 ho9 hb hg_ hnew_;clear hg_ hnew_;(first | rw [← Ny204.out] at ho9 | (simp only [Int.reduceToNat] at ho9;rw [← Ny204.out] at ho9));have n0_:=Aside0.mk (Kd.R_lower ho9 (keep_size (w:=w) (g:=g) (row:=none) (by repeat (first | (with_reducible first | exact HK.out | apply KeepBut.set_ | apply keep_drewN | apply keep_drew | apply keep_alloc) | exact HK.out))));have n1_:=Aside0.mk (IsS67.below (by repeat (first | (with_reducible first | exact HI0.out | apply IsS67.alloc | apply IsS67.drewN | apply IsS67.drew | apply IsS67.set_1) | exact HI0.out)) hb);have n2_:=Aside0.mk (KeepBut.trans (by repeat (first | (with_reducible first | exact HK.out | apply KeepBut.set_ | apply keep_drewN | apply keep_drew | apply keep_alloc) | exact HK.out)) (KeepBut.of_below hb g none) (.inl rfl));have n3_:=Aside0.mk (below_step (by repeat (first | (with_reducible first | exact HB.out | apply below_alloc | apply pw_below_drewN | apply below_drew1 | refine below_set ?_ (IsS67.ge HI0.out)) | exact HB.out)) hb);clear HI0;clear HK;clear HB;have HO206:=n0_;have HI0:=n1_;have HK:=n2_;have HB:=n3_;clear n0_ n1_ n2_ n3_;clear hb ho9) | ((with_reducible refine gate_callee (f:=56) rfl ?_);refine goesL_ (some 8) rfl rfl Try.func56 (by kernel_rfl) rfl #[.pointer (some ⟨g,0,none⟩),.int .i64 3] rfl (by (try simp only [List.map_toArray,List.map_cons,List.map_nil]);first | done | rfl | (simp only [List.length_drop,List.length_take];rfl)) ?_;(with_reducible refine (spec_l6Rd_pick.calls k g s0_0 t203 3 t207 t208 w0 _ ?side1 ?side2 A4.out).mono ?_);(case side1=>repeat (first | (with_reducible first | exact HI0.out | apply IsS67.alloc | apply IsS67.drewN | apply IsS67.drew | apply IsS67.set_1) | exact HI0.out));(case side2=>repeat (first | (with_reducible first | exact HB.out | apply below_alloc | apply pw_below_drewN | apply below_drew1 | refine below_set ?_ (IsS67.ge HI0.out)) | exact HB.out));rintro e w10 ⟨rfl,hi,hb,hk⟩;refine ⟨_,rfl,?_⟩;have n0_:=Aside0.mk (Kd.R_mono (Kd.R_keep (IsS67.apart (show IsS67 w0 _ g s0_0 t203 from by repeat (first | (with_reducible first | exact HI0.out | apply IsS67.alloc | apply IsS67.drewN | apply IsS67.drew | apply IsS67.set_1) | exact HI0.out)) (by (with_reducible repeat (first | apply Kd.R_alloc | apply Kd.R_drewN | apply Kd.R_drew));exact HO206.out) (by decide)) hk (fun _ h=>h.2)) (fun _ h=>h.1));have n1_:=Aside0.mk (KeepBut.trans (by repeat (first | (with_reducible first | exact HK.out | apply KeepBut.set_ | apply keep_drewN | apply keep_drew | apply keep_alloc) | exact HK.out)) hk (.inl rfl));have n2_:=Aside0.mk (hb);have n3_:=Aside0.mk (hi);clear HO206;clear HK;clear HB;clear HI0;have HO206:=n0_;have HK:=n1_;have HB:=n2_;have HI0:=n3_;clear n0_ n1_ n2_ n3_;(try clear hb);(try clear hb2);(try clear hk);(try clear hi);obtain ⟨Ao11,co11,eo11⟩:=Kd.R_slice HO206.out;subst eo11;have p209:0 ≤ (t207:Int):=of_decide_eq_true (by first | (with_reducible assumption) | assumption);have q209:t207 < (y204.length:Int):=of_decide_eq_true (by first | (with_reducible assumption) | assumption);obtain ⟨ad209,e209,hx209_0⟩:=Kd.at_int (Kd.R_reads' HO206.out).2.2 t207 p209 q209;cases e209;replace p209:=eq_true p209;replace q209:=eq_true q209))
    go_ret
    exact ⟨by first | rfl | (simp [errW_none,errW_some] <;> rfl) | (simp [*,errW_none,errW_some] <;> rfl),by repeat (first | (with_reducible first | exact HI0.out | apply IsS67.alloc | apply IsS67.drewN | apply IsS67.drew | apply IsS67.set_1) | exact HI0.out),by repeat (first | (with_reducible first | exact HB.out | apply below_alloc | apply pw_below_drewN | apply below_drew1 | refine below_set ?_ (IsS67.ge HI0.out)) | exact HB.out),by repeat (first | (with_reducible first | exact HK.out | apply KeepBut.set_ | apply keep_drewN | apply keep_drew | apply keep_alloc) | exact HK.out)⟩
   ·rw [if_neg c6] at H
    exact absurd H (by simp)
  ·rw [if_neg c5] at H
   exact absurd H (by simp)
 ·rw [if_neg c3] at H
  have c3b0:(t202 == 0) = false:=beq_eq_false_iff_ne.mpr c3
  have c3b1:(t202 != 0) = true:=bne_iff_ne.mpr c3
  replace H:=Option.bind_eq_some_iff.mp H
  obtain ⟨⟨t210,t211⟩,A120,H⟩:=H
  replace H:(some (t210,t211)) = some (r1,r2):=H
  have A12:=Aside0.mk A120
  clear A120
  simp only [Option.some.injEq,Prod.mk.injEq] at H
  obtain ⟨rfl,rfl⟩:=H
  go_enter Try.func68,Try.ntmps68
  go_wp2_with (first | ((with_reducible refine gate_callee (f:=56) rfl ?_);refine goesL_ (some 4) rfl rfl Try.func56 (by kernel_rfl) rfl #[.pointer (some ⟨g,0,none⟩),.int .i64 30] rfl (by (try simp only [List.map_toArray,List.map_cons,List.map_nil]);first | done | rfl | (simp only [List.length_drop,List.length_take];rfl)) ?_;(with_reducible refine (spec_l6Rd_pick.calls k g s0_0 s0_1 30 t202 t203 w0 _ ?side1 ?side2 A2.out).mono ?_);(case side1=>repeat (first | (with_reducible first | exact HI0.out | apply IsS67.alloc | apply IsS67.drewN | apply IsS67.drew | apply IsS67.set_1) | exact HI0.out));(case side2=>repeat (first | (with_reducible first | exact HB.out | apply below_alloc | apply pw_below_drewN | apply below_drew1 | refine below_set ?_ (IsS67.ge HI0.out)) | exact HB.out));rintro e w13 ⟨rfl,hi,hb,hk⟩;refine ⟨_,rfl,?_⟩;have n0_:=Aside0.mk (KeepBut.trans (by repeat (first | (with_reducible first | exact HK.out | apply KeepBut.set_ | apply keep_drewN | apply keep_drew | apply keep_alloc) | exact HK.out)) hk (.inl rfl));have n1_:=Aside0.mk (hb);have n2_:=Aside0.mk (hi);clear HK;clear HB;clear HI0;have HK:=n0_;have HB:=n1_;have HI0:=n2_;clear n0_ n1_ n2_;(try clear hb);(try clear hb2);(try clear hk);(try clear hi)) | ((with_reducible refine gate_callee (f:=70) rfl ?_);refine goesL_ (some 12) rfl rfl Try.func70 (by kernel_rfl) rfl #[.pointer (some ⟨g,0,none⟩)] rfl (by (try simp only [List.map_toArray,List.map_cons,List.map_nil]);first | done | rfl | (simp only [List.length_drop,List.length_take];rfl)) ?_;(with_reducible refine (spec_l91Do.calls k g s0_0 t203 t210 t211 w0 _ ?side1 ?side2 A12.out).mono ?_);(case side1=>repeat (first | (with_reducible first | exact HI0.out | apply IsS67.alloc | apply IsS67.drewN | apply IsS67.drew | apply IsS67.set_1) | exact HI0.out));(case side2=>repeat (first | (with_reducible first | exact HB.out | apply below_alloc | apply pw_below_drewN | apply below_drew1 | refine below_set ?_ (IsS67.ge HI0.out)) | exact HB.out));rintro e w14 ⟨rfl,hi,hb,hk⟩;refine ⟨_,rfl,?_⟩;have n0_:=Aside0.mk (KeepBut.trans (by repeat (first | (with_reducible first | exact HK.out | apply KeepBut.set_ | apply keep_drewN | apply keep_drew | apply keep_alloc) | exact HK.out)) hk (.inl rfl));have n1_:=Aside0.mk (hb);have n2_:=Aside0.mk (hi);clear HK;clear HB;clear HI0;have HK:=n0_;have HB:=n1_;have HI0:=n2_;clear n0_ n1_ n2_;(try clear hb);(try clear hb2);(try clear hk);(try clear hi)))
  go_ret
  exact ⟨by first | rfl | (simp [errW_none,errW_some] <;> rfl) | (simp [*,errW_none,errW_some] <;> rfl),by repeat (first | (with_reducible first | exact HI0.out | apply IsS67.alloc | apply IsS67.drewN | apply IsS67.drew | apply IsS67.set_1) | exact HI0.out),by repeat (first | (with_reducible first | exact HB.out | apply below_alloc | apply pw_below_drewN | apply below_drew1 | refine below_set ?_ (IsS67.ge HI0.out)) | exact HB.out),by repeat (first | (with_reducible first | exact HK.out | apply KeepBut.set_ | apply keep_drewN | apply keep_drew | apply keep_alloc) | exact HK.out)⟩
end Go.Proofs.Ytnkgcjdlfenepaa.P
