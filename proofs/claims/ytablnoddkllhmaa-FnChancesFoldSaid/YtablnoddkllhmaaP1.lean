/- What the Go functions that the laws reach compute, and that their calls come to just that: told by a program of this session (aprint.py). No condition. -/
import Derived.Test.YtablnoddkllhmaaP0
namespace Go.Proofs.Ytablnoddkllhmaa.P
open Go.RowKit Go.Proofs.YtablnoddkllhmaaW.PrintWords Go.Proofs.YtablnoddkllhmaaW.PrintLast Go.Proofs.YtablnoddkllhmaaW.PrintMore
attribute [local go_sem] max2_int min2_int max_two min_two max_three min_three max_four min_four
set_option linter.unusedVariables false
set_option linter.unusedSimpArgs false
def IsS67 (w0 W:World) (g:Nat) (f0:List Int) (f1:Int):Prop:=∃ A0 c0,W.heap[g]? = some (.cells #[.slice A0 f0.length c0,.int .i64 f1] 67 (0,0))∧w0.heap.size ≤ g∧Kd.C (Kd.int .u8) w0 A0 f0.length f0
theorem IsS67.grown {w0 W:World} {g:Nat} {f0:List Int} {f1:Int} {W1:World} {row:Option Nat} (h:IsS67 w0 W g f0 f1) (hw:W.grownBy W1 row) (hne:some g ≠ row):IsS67 w0 W1 g f0 f1:=by
 obtain ⟨A0,c0,hb,hg,hr0⟩:=h
 exact ⟨A0,c0,blk_grown hb hw hne,hg,hr0⟩
theorem IsS67.own_neN {w0 W:World} {g:Nat} {f0:List Int} {f1:Int} {α:Type} {d:Kd α} {e:Nat} {base:Nat} {ok:Nat → Prop} {v:Value} {xs:List α} (h:IsS67 w0 W g f0 f1) (ho:Kd.N d e W base ok v xs) (ht:e ≠ 67):some g ≠ v.ownBlock:=by
 obtain ⟨A0,c0,hb,hg,hr0⟩:=h
 exact Kd.N_ne ho hb ht
theorem IsS67.fresh {w0 W:World} {g:Nat} {f0:List Int} {f1:Int} (h:IsS67 w0 W g f0 f1):∀ k,W.heap.size ≤ k → k ≠ g:=by
 obtain ⟨A0,c0,hb,hg,hr0⟩:=h
 exact Kd.freshB hb
theorem IsS67.below {w0 W:World} {g:Nat} {f0:List Int} {f1:Int} {W1:World} (h:IsS67 w0 W g f0 f1) (hw:Below W.heap.size W W1):IsS67 w0 W1 g f0 f1:=h.grown (grown_of_below hw none) (by simp)
theorem IsS67.alloc {w0 W:World} {g:Nat} {f0:List Int} {f1:Int} (h:IsS67 w0 W g f0 f1) (o:Obj):IsS67 w0 (W.alloc o) g f0 f1:=h.below (below_alloc (Below.refl _ _) o)
theorem IsS67.drewN {w0 W:World} {g:Nat} {f0:List Int} {f1:Int} (h:IsS67 w0 W g f0 f1) (m:Nat):IsS67 w0 (W.drewN m) g f0 f1:=h
theorem IsS67.drew {w0 W:World} {g:Nat} {f0:List Int} {f1:Int} (h:IsS67 w0 W g f0 f1):IsS67 w0 W.drew g f0 f1:=h
theorem IsS67.apart {w0 W:World} {g:Nat} {f0:List Int} {f1:Int} {α:Type} {d:Kd α} {e:Nat} {base:Nat} {ok:Nat → Prop} {v:Value} {xs:List α} (h:IsS67 w0 W g f0 f1) (ho:d.R e W base ok v xs) (ht:∀ q,q ∈ e :: d.E → q ≠ 67):d.R e W base (fun k=>ok k∧k ≠ g) v xs:=by
 obtain ⟨A0,c0,hb,hg,hr0⟩:=h
 exact Kd.R_types ho hb ht
theorem IsS67.own_ne {w0 W:World} {g:Nat} {f0:List Int} {f1:Int} {α:Type} {d:Kd α} {e:Nat} {base:Nat} {ok:Nat → Prop} {v:Value} {xs:List α} (h:IsS67 w0 W g f0 f1) (ho:d.R e W base ok v xs) (ht:e ≠ 67):some g ≠ v.ownBlock:=by
 obtain ⟨A0,c0,hb,hg,hr0⟩:=h
 exact Kd.R_ne ho hb ht
theorem IsS67.apartS {w0 W:World} {g:Nat} {f0:List Int} {f1:Int} {α:Type} {d:Kd α} {e:Nat} {base:Nat} {ok:Nat → Prop} {v:Value} {xs:List α} (h:IsS67 w0 W g f0 f1) (ho:d.S e W base ok v xs) (ht:∀ q,q ∈ e :: d.E → q ≠ 67):d.S e W base (fun k=>ok k∧k ≠ g) v xs:=by
 obtain ⟨A0,c0,hb,hg,hr0⟩:=h
 exact Kd.S_types ho hb ht
theorem IsS67.own_neS {w0 W:World} {g:Nat} {f0:List Int} {f1:Int} {α:Type} {d:Kd α} {e:Nat} {base:Nat} {ok:Nat → Prop} {v:Value} {xs:List α} (h:IsS67 w0 W g f0 f1) (ho:d.S e W base ok v xs) (ht:e ≠ 67):some g ≠ v.ownBlock:=by
 obtain ⟨A0,c0,hb,hg,hr0⟩:=h
 exact Kd.S_ne ho hb ht
theorem IsS67.lt {w0 W:World} {g:Nat} {f0:List Int} {f1:Int} (h:IsS67 w0 W g f0 f1):g < W.heap.size:=by
 obtain ⟨A0,c0,hb,hg,hr0⟩:=h
 exact blk_lt hb
theorem IsS67.ge {w0 W:World} {g:Nat} {f0:List Int} {f1:Int} (h:IsS67 w0 W g f0 f1):w0.heap.size ≤ g:=by
 obtain ⟨A0,c0,hb,hg,hr0⟩:=h
 exact hg
theorem IsS67.ne_blk {w0 W:World} {g:Nat} {f0:List Int} {f1:Int} {a:Nat} {cs:Array Value} {t:TypeId} {fr:Nat × Nat} (h:IsS67 w0 W g f0 f1) (hb2:W.heap[a]? = some (.cells cs t fr)) (ht:t ≠ 67):g ≠ a:=by
 obtain ⟨A0,c0,hb,hg,hr0⟩:=h
 rintro rfl
 rw [hb] at hb2
 injection hb2 with hb2
 injection hb2 with _ ht2
 exact ht ht2.symm
theorem IsS67.far {w0 W:World} {g:Nat} {f0:List Int} {f1:Int} {p:Addr} (h:IsS67 w0 W g f0 f1) (hne:g ≠ p.block) (u:Value):IsS67 w0 (W.setCell p u) g f0 f1:=by
 obtain ⟨A0,c0,hb,hg,hr0⟩:=h
 exact ⟨A0,c0,blk_far hb hne u,hg,hr0⟩
theorem cellS67_0 {W:World} {g:Nat} {A0:Option Addr} {c0:Nat} {f0:List Int} {f1:Int} (h:W.heap[g]? = some (.cells #[.slice A0 f0.length c0,.int .i64 f1] 67 (0,0))):W.cell? ⟨g,0,none⟩ = some (.slice A0 f0.length c0):=(blk_cell h 0).trans rfl
theorem cellS67_1 {W:World} {g:Nat} {A0:Option Addr} {c0:Nat} {f0:List Int} {f1:Int} (h:W.heap[g]? = some (.cells #[.slice A0 f0.length c0,.int .i64 f1] 67 (0,0))):W.cell? ⟨g,1,none⟩ = some (.int .i64 f1):=(blk_cell h 1).trans rfl
theorem IsS67.set_1 {w0 W:World} {g:Nat} {f0:List Int} {f1:Int} (h:IsS67 w0 W g f0 f1) (x:Int):IsS67 w0 (W.setCell ⟨g,1,none⟩ (.int .i64 x)) g f0 x:=by
 obtain ⟨A0,c0,hb,hg,hr0⟩:=h
 exact ⟨A0,c0,by simpa using blk_set hb 1 (.int .i64 x),hg,hr0⟩
def spec_l6In.f (a0:Int) (a1:Int) (a2:Int):Option (Bool):=if a0 ≥ a1 then (some (decide (a0 ≤ a2))) else (some false)
set_option maxHeartbeats 8000000 in
set_option maxRecDepth 100000 in
theorem spec_l6In.calls (a0:Int) (a1:Int) (a2:Int) (r:Bool) (w:World) (h:spec_l6In.f a0 a1 a2 = some r) :
  Calls Try.prog 40 #[.int .i64 a0,.int .i64 a1,.int .i64 a2] w fun e w'=>e = .returned (.bool r)∧Drawn0 w w':=by
 have H:(if a0 ≥ a1 then (some (decide (a0 ≤ a2))) else (some false)) = some r:=h
 clear h
 by_cases c4:a0 ≥ a1
 ·rw [if_pos c4] at H
  have c4b0:decide (a1 ≤ a0) = true:=decide_eq_true c4
  clear c4
  obtain rfl:=Option.some.inj H
  go_enter Try.func40,Try.ntmps40
  go_wp2
  go_ret
  exact ⟨by first | rfl | (simp;done) | (simp [*];done),by repeat (first | exact Drawn0.refl _ | apply Drawn0.step)⟩
 ·rw [if_neg c4] at H
  have c4b0:decide (a1 ≤ a0) = false:=decide_eq_false c4
  clear c4
  obtain rfl:=Option.some.inj H
  go_enter Try.func40,Try.ntmps40
  go_wp2
  go_ret
  exact ⟨by first | rfl | (simp;done) | (simp [*];done),by repeat (first | exact Drawn0.refl _ | apply Drawn0.step)⟩
mutual
def spec_ChancesOk.j0:Nat → Int → Bool → List Int → List (List Int) → Option (Bool)
 | 0,_,_,_,_=>none
 | k + 1,x3,x19,x107000,x107001=>if x19 = true then (some false) else (spec_ChancesOk.l0 k x3 0 x107000 x107001)
def spec_ChancesOk.l0:Nat → Int → Int → List Int → List (List Int) → Option (Bool)
 | 0,_,_,_,_=>none
 | k + 1,x3,x4,x107000,x107001=>if x4 < x3 then (if 0 ≤ x4 then (if x4 < (x107000.length:Int) then ((spec_l6In.f (rd x107000 x4) 0 9).bind fun t109=>(if t109 = true then (if x4 < (x107001.length:Int) then (spec_ChancesOk.j2 k x3 x4 (((rd_L1 x107001 x4).length:Int) != x3) x107000 x107001) else (none)) else (spec_ChancesOk.j2 k x3 x4 true x107000 x107001))) else (none)) else (none)) else (some true)
def spec_ChancesOk.j2:Nat → Int → Int → Bool → List Int → List (List Int) → Option (Bool)
 | 0,_,_,_,_,_=>none
 | k + 1,x3,x4,x41,x107000,x107001=>if x41 = true then (some false) else (spec_ChancesOk.l1 k x3 x4 0 0 x107000 x107001)
def spec_ChancesOk.l1:Nat → Int → Int → Int → Int → List Int → List (List Int) → Option (Bool)
 | 0,_,_,_,_,_,_=>none
 | k + 1,x3,x4,x5,x6,x107000,x107001=>if x6 < x3 then (if 0 ≤ x4 then (if x4 < (x107001.length:Int) then (if 0 ≤ x6 then (if x6 < ((rd_L1 x107001 x4).length:Int) then ((spec_l6In.f (rd (rd_L1 x107001 x4) x6) 0 6).bind fun t113=>(if t113 = true then (spec_ChancesOk.l1 k x3 x4 (wrap64 (x5 + (rd (rd_L1 x107001 x4) x6))) (wrap64 (x6 + 1)) x107000 x107001) else (some false))) else (none)) else (none)) else (none)) else (none)) else (if x5 = 6 then (spec_ChancesOk.l0 k x3 (wrap64 (x4 + 1)) x107000 x107001) else (some false))
end
def spec_ChancesOk.f (k:Nat) (l0_0:List Int) (l0_1:List (List Int)):Option (Bool):=(spec_l6In.f (l0_0.length:Int) 1 60).bind fun t107=>(if t107 = true then (spec_ChancesOk.j0 k (l0_0.length:Int) ((l0_1.length:Int) != (l0_0.length:Int)) l0_0 l0_1) else (spec_ChancesOk.j0 k (l0_0.length:Int) true l0_0 l0_1))
theorem spec_ChancesOk.mono_l:∀ k,(∀ y0 y1 y2 y3,LeO (spec_ChancesOk.j0 k y0 y1 y2 y3) (spec_ChancesOk.j0 (k + 1) y0 y1 y2 y3))∧(∀ y0 y1 y2 y3,LeO (spec_ChancesOk.l0 k y0 y1 y2 y3) (spec_ChancesOk.l0 (k + 1) y0 y1 y2 y3))∧(∀ y0 y1 y2 y3 y4,LeO (spec_ChancesOk.j2 k y0 y1 y2 y3 y4) (spec_ChancesOk.j2 (k + 1) y0 y1 y2 y3 y4))∧(∀ y0 y1 y2 y3 y4 y5,LeO (spec_ChancesOk.l1 k y0 y1 y2 y3 y4 y5) (spec_ChancesOk.l1 (k + 1) y0 y1 y2 y3 y4 y5))
 | 0=>⟨fun _ _ _ _ r h=>by simp [spec_ChancesOk.j0] at h,fun _ _ _ _ r h=>by simp [spec_ChancesOk.l0] at h,fun _ _ _ _ _ r h=>by simp [spec_ChancesOk.j2] at h,fun _ _ _ _ _ _ r h=>by simp [spec_ChancesOk.l1] at h⟩
 | k + 1=>by
  obtain ⟨ih0,ih1,ih2,ih3⟩:=spec_ChancesOk.mono_l k
  refine ⟨?_,?_,?_,?_⟩
  ·intro y0 y1 y2 y3
   unfold spec_ChancesOk.j0
   repeat' first
   | (with_reducible exact ih0 _ _ _ _)
   | (with_reducible exact ih1 _ _ _ _)
   | (with_reducible exact ih2 _ _ _ _ _)
   | (with_reducible exact ih3 _ _ _ _ _ _)
   | (with_reducible exact LeO.refl _)
   | (with_reducible exact LeO.none _)
   | (with_reducible refine LeO.ite ?_ ?_)
   | (with_reducible refine LeO.bind ?_ (fun _=>?_))
   | exact ih0 _ _ _ _
   | exact ih1 _ _ _ _
   | exact ih2 _ _ _ _ _
   | exact ih3 _ _ _ _ _ _
   | exact LeO.none _
   | refine LeO.ite ?_ ?_
   | refine LeO.bind ?_ (fun _=>?_)
  ·intro y0 y1 y2 y3
   unfold spec_ChancesOk.l0
   repeat' first
   | (with_reducible exact ih0 _ _ _ _)
   | (with_reducible exact ih1 _ _ _ _)
   | (with_reducible exact ih2 _ _ _ _ _)
   | (with_reducible exact ih3 _ _ _ _ _ _)
   | (with_reducible exact LeO.refl _)
   | (with_reducible exact LeO.none _)
   | (with_reducible refine LeO.ite ?_ ?_)
   | (with_reducible refine LeO.bind ?_ (fun _=>?_))
   | exact ih0 _ _ _ _
   | exact ih1 _ _ _ _
   | exact ih2 _ _ _ _ _
   | exact ih3 _ _ _ _ _ _
   | exact LeO.none _
   | refine LeO.ite ?_ ?_
   | refine LeO.bind ?_ (fun _=>?_)
  ·intro y0 y1 y2 y3 y4
   unfold spec_ChancesOk.j2
   repeat' first
   | (with_reducible exact ih0 _ _ _ _)
   | (with_reducible exact ih1 _ _ _ _)
   | (with_reducible exact ih2 _ _ _ _ _)
   | (with_reducible exact ih3 _ _ _ _ _ _)
   | (with_reducible exact LeO.refl _)
   | (with_reducible exact LeO.none _)
   | (with_reducible refine LeO.ite ?_ ?_)
   | (with_reducible refine LeO.bind ?_ (fun _=>?_))
   | exact ih0 _ _ _ _
   | exact ih1 _ _ _ _
   | exact ih2 _ _ _ _ _
   | exact ih3 _ _ _ _ _ _
   | exact LeO.none _
   | refine LeO.ite ?_ ?_
   | refine LeO.bind ?_ (fun _=>?_)
  ·intro y0 y1 y2 y3 y4 y5
   unfold spec_ChancesOk.l1
   repeat' first
   | (with_reducible exact ih0 _ _ _ _)
   | (with_reducible exact ih1 _ _ _ _)
   | (with_reducible exact ih2 _ _ _ _ _)
   | (with_reducible exact ih3 _ _ _ _ _ _)
   | (with_reducible exact LeO.refl _)
   | (with_reducible exact LeO.none _)
   | (with_reducible refine LeO.ite ?_ ?_)
   | (with_reducible refine LeO.bind ?_ (fun _=>?_))
   | exact ih0 _ _ _ _
   | exact ih1 _ _ _ _
   | exact ih2 _ _ _ _ _
   | exact ih3 _ _ _ _ _ _
   | exact LeO.none _
   | refine LeO.ite ?_ ?_
   | refine LeO.bind ?_ (fun _=>?_)
theorem spec_ChancesOk.mono:∀ a0 a1 k,LeO (spec_ChancesOk.f k a0 a1) (spec_ChancesOk.f (k + 1) a0 a1):=by
 intro a0 a1 k
 obtain ⟨ih0,ih1,ih2,ih3⟩:=spec_ChancesOk.mono_l k
 unfold spec_ChancesOk.f
 repeat' first
   | (with_reducible exact ih0 _ _ _ _)
   | (with_reducible exact ih1 _ _ _ _)
   | (with_reducible exact ih2 _ _ _ _ _)
   | (with_reducible exact ih3 _ _ _ _ _ _)
   | (with_reducible exact LeO.refl _)
   | (with_reducible exact LeO.none _)
   | (with_reducible refine LeO.ite ?_ ?_)
   | (with_reducible refine LeO.bind ?_ (fun _=>?_))
   | exact ih0 _ _ _ _
   | exact ih1 _ _ _ _
   | exact ih2 _ _ _ _ _
   | exact ih3 _ _ _ _ _ _
   | exact LeO.none _
   | refine LeO.ite ?_ ?_
   | refine LeO.bind ?_ (fun _=>?_)
set_option maxHeartbeats 8000000 in
set_option maxRecDepth 100000 in
theorem spec_ChancesOk.calls (k:Nat) (A0_0:Option Addr) (c0_0:Nat) (l0_0:List Int) (A0_1:Option Addr) (c0_1:Nat) (l0_1:List (List Int)) (r:Bool) (w:World) (hr0_0:Kd.C (Kd.int .i64) w A0_0 l0_0.length l0_0) (hc0_0:l0_0.length ≤ c0_0) (hr0_1:Kd.C (Kd.slice 3 (Kd.int .i64)) w A0_1 l0_1.length l0_1) (hc0_1:l0_1.length ≤ c0_1) (h:spec_ChancesOk.f k l0_0 l0_1 = some r) :
  Calls Try.prog 14 #[.agg #[.slice A0_0 l0_0.length c0_0,.slice A0_1 l0_1.length c0_1]] w fun e w'=>e = .returned (.bool r)∧Below w.heap.size w w':=by
 have hu28:=Try.underlying28
 have HR0_0:=Aside0.mk hr0_0
 have HC0_0:=Aside0.mk hc0_0
 clear hr0_0 hc0_0
 have HR0_1:=Aside0.mk hr0_1
 have HC0_1:=Aside0.mk hc0_1
 clear hr0_1 hc0_1
 have HB:=Aside0.mk (Below.refl w.heap.size w)
 have H:((spec_l6In.f (l0_0.length:Int) 1 60).bind fun t107=>(if t107 = true then (spec_ChancesOk.j0 k (l0_0.length:Int) ((l0_1.length:Int) != (l0_0.length:Int)) l0_0 l0_1) else (spec_ChancesOk.j0 k (l0_0.length:Int) true l0_0 l0_1))) = some r:=h
 clear h
 have HC2:=Aside0.mk H
 clear H
 go_enter Try.func14,Try.ntmps14
 go_upto_region 2 with (first | ((with_reducible refine gate_dst (N:=1) rfl ?_);(try (refine gate_guard (by rfl) ?_;dsimp only));refine box_event ?hg (N:=1) ?hd (cs:=#[.slice A0_0 l0_0.length c0_0,.slice A0_1 l0_1.length c0_1]) (t:=28) ?hr ?_;(case hd=>rfl);(case hg=>rfl);(case hr=>first | (go_simp;done) | (go_simp;rfl));intro gb106 hg w3 hbox hb;have n0_:=Aside0.mk (below_step (by exact HB.out) hb);have n1_:=Aside0.mk (hbox);have n2_:=Aside0.mk ((by rw [hg];exact (below_size (by exact HB.out)):w.heap.size ≤ gb106));have n3_:=Aside0.mk ((by rw [hg];exact (below_size (by exact HB.out)):w.heap.size ≤ gb106));clear HB;have HB:=n0_;have BK106:=n1_;have GW106:=n2_;have GE106:=n3_;clear n0_ n1_ n2_ n3_;clear hb hbox hg;have hcz4_0:w3.cell? ⟨gb106,0,none⟩ = some (.slice A0_0 l0_0.length c0_0):=(blk_cell BK106.out 0).trans rfl;have hcz4_1:w3.cell? ⟨gb106,1,none⟩ = some (.slice A0_1 l0_1.length c0_1):=(blk_cell BK106.out 1).trans rfl;have hfz4_0:=blk_frozen BK106.out 0;have hfz4_1:=blk_frozen BK106.out 1))
 (try simp only [Act.put,List.setIfInBounds_toArray,List.set_cons_zero,List.set_cons_succ])
 go_cut [19] (fun v19 wc=>∃ (kq:Nat) (x19_1:Bool),v19 = .bool x19_1∧Aside0 (spec_ChancesOk.j0 kq (l0_0.length:Int) x19_1 l0_0 l0_1 = some r)∧Aside0 (kq ≤ k)∧Aside0 (wc.heap[gb106]? = some (.cells #[(.slice A0_0 l0_0.length c0_0),(.slice A0_1 l0_1.length c0_1)] 28 (0,0)))∧Aside0 (Below w.heap.size w wc))
 case first =>
  have H:=HC2.out
  clear HC2
  replace H:=Option.bind_eq_some_iff.mp H
  obtain ⟨t107,A50,H⟩:=H
  replace H:(if t107 = true then (spec_ChancesOk.j0 k (l0_0.length:Int) ((l0_1.length:Int) != (l0_0.length:Int)) l0_0 l0_1) else (spec_ChancesOk.j0 k (l0_0.length:Int) true l0_0 l0_1)) = some r:=H
  have A5:=Aside0.mk A50
  clear A50
  by_cases c6:t107 = true
  ·subst c6
   have H1:(spec_ChancesOk.j0 k (l0_0.length:Int) ((l0_1.length:Int) != (l0_0.length:Int)) l0_0 l0_1) = some r:=by rw [if_pos rfl] at H;exact H
   clear H
   have H:=H1
   clear H1
   have H':=Aside0.mk H
   clear H
   go_wp2_with (first | ((with_reducible refine gate_callee (f:=40) rfl ?_);refine goesL_ (some 11) rfl rfl Try.func40 (by kernel_rfl) rfl #[.int .i64 (l0_0.length:Int),.int .i64 1,.int .i64 60] rfl (by (try simp only [List.map_toArray,List.map_cons,List.map_nil]);first | done | rfl | (simp only [List.length_drop,List.length_take];rfl)) ?_;(with_reducible refine (spec_l6In.calls (l0_0.length:Int) 1 60 true _ A5.out).mono ?_);rintro e w' ⟨rfl,⟨nd,rfl⟩⟩;refine ⟨_,rfl,?_⟩;have hcz7_0:w3.cell? ⟨gb106,0,none⟩ = some (.slice A0_0 l0_0.length c0_0):=(blk_cell BK106.out 0).trans rfl;have hcz7_1:w3.cell? ⟨gb106,1,none⟩ = some (.slice A0_1 l0_1.length c0_1):=(blk_cell BK106.out 1).trans rfl;have hfz7_0:=blk_frozen BK106.out 0;have hfz7_1:=blk_frozen BK106.out 1))
   go_meet
   case rel=>exact ⟨_,(((l0_1.length:Int) != (l0_0.length:Int))),(by first | rfl | (simp;done) | (simp [*];done)),H',⟨by first | omega | exact Nat.le_refl _⟩,⟨by (with_reducible repeat (first | refine blk_drewN ?_ _ | refine blk_drew ?_ | refine blk_alloc ?_ _));exact BK106.out⟩,⟨by repeat (with_reducible first | exact HB.out | apply below_alloc | apply pw_below_drewN | apply below_drew1 | refine below_set ?_ GE106.out)⟩⟩
  ·replace c6:=Bool.eq_false_iff.mpr c6
   subst c6
   have H1:(spec_ChancesOk.j0 k (l0_0.length:Int) true l0_0 l0_1) = some r:=by rw [if_neg (show ¬ (false = true) by decide)] at H;exact H
   clear H
   have H:=H1
   clear H1
   have H':=Aside0.mk H
   clear H
   go_wp2_with (first | ((with_reducible refine gate_callee (f:=40) rfl ?_);refine goesL_ (some 11) rfl rfl Try.func40 (by kernel_rfl) rfl #[.int .i64 (l0_0.length:Int),.int .i64 1,.int .i64 60] rfl (by (try simp only [List.map_toArray,List.map_cons,List.map_nil]);first | done | rfl | (simp only [List.length_drop,List.length_take];rfl)) ?_;(with_reducible refine (spec_l6In.calls (l0_0.length:Int) 1 60 false _ A5.out).mono ?_);rintro e w' ⟨rfl,⟨nd,rfl⟩⟩;refine ⟨_,rfl,?_⟩))
   go_meet
   case rel=>exact ⟨_,(true),(by first | rfl | (simp;done) | (simp [*];done)),H',⟨by first | omega | exact Nat.le_refl _⟩,⟨by (with_reducible repeat (first | refine blk_drewN ?_ _ | refine blk_drew ?_ | refine blk_alloc ?_ _));exact BK106.out⟩,⟨by repeat (with_reducible first | exact HB.out | apply below_alloc | apply pw_below_drewN | apply below_drew1 | refine below_set ?_ GE106.out)⟩⟩
 case rest =>
  clear HC2
  try clear c1
  try clear p2
  try clear c4
  try clear c6
  try clear hcz4_0
  try clear hcz4_1
  try clear hcz7_0
  try clear hcz7_1
  try clear hfz4_0
  try clear hfz4_1
  try clear hfz7_0
  try clear hfz7_1
  obtain ⟨kq,x19_1,rfl,HA,HJ1,BK106,HB⟩:=hcut
  cases kq with
  | zero=>exact absurd HA.out (by simp [spec_ChancesOk.j0])
  | succ kj1 =>
   have H:=HA.out
   clear HA
   simp only [spec_ChancesOk.j0] at H
   by_cases c8:x19_1 = true
   ·subst c8
    have H1:(some false) = some r:=by rw [if_pos rfl] at H;exact H
    clear H
    have H:=H1
    clear H1
    obtain rfl:=Option.some.inj H
    go_wp2
    go_ret
    exact ⟨rfl,by exact HB.out⟩
   ·replace c8:=Bool.eq_false_iff.mpr c8
    subst c8
    have H1:(spec_ChancesOk.l0 kj1 (l0_0.length:Int) 0 l0_0 l0_1) = some r:=by rw [if_neg (show ¬ (false = true) by decide)] at H;exact H
    clear H
    have H:=H1
    clear H1
    have H':=Aside0.mk H
    clear H
    go_wp2
    go_loopg [4] kj1 (fun kq v4 w'=>∃ (x4_2:Int),v4 = .int .i64 x4_2∧Aside0 (spec_ChancesOk.l0 kq (l0_0.length:Int) x4_2 l0_0 l0_1 = some r)∧Aside0 (kq ≤ kj1)∧Aside0 (w'.heap[gb106]? = some (.cells #[(.slice A0_0 l0_0.length c0_0),(.slice A0_1 l0_1.length c0_1)] 28 (0,0)))∧Aside0 (Below w.heap.size w w'))
    case atStart=>exact ⟨(0),(by first | rfl | (simp;done) | (simp [*];done)),H',⟨Nat.le_refl _⟩,⟨by exact BK106.out⟩,⟨by exact HB.out⟩⟩
    case round =>
     clear H'
     try clear c1
     try clear p2
     try clear c4
     try clear c6
     try clear c8
     try clear hcz4_0
     try clear hcz4_1
     try clear hcz7_0
     try clear hcz7_1
     try clear hfz4_0
     try clear hfz4_1
     try clear hfz7_0
     try clear hfz7_1
     try clear p2
     obtain ⟨x4_2,rfl,HA,HK2,BK106,HB⟩:=hrel
     cases gk with
     | zero=>exact absurd HA.out (by simp [spec_ChancesOk.l0])
     | succ k2 =>
      have H:=HA.out
      clear HA
      simp only [spec_ChancesOk.l0] at H
      by_cases c9:x4_2 < (l0_0.length:Int)
      ·rw [if_pos c9] at H
       have c9b0:decide (x4_2 < (l0_0.length:Int)) = true:=decide_eq_true c9
       clear c9
       have HC10:=Aside0.mk H
       clear H
       go_upto_region 7 with (fail)
       go_cut [41] (fun v41 wc=>∃ (kq:Nat) (x41_9:Bool),v41 = .bool x41_9∧Aside0 (spec_ChancesOk.j2 kq (l0_0.length:Int) x4_2 x41_9 l0_0 l0_1 = some r)∧Aside0 (kq ≤ k2)∧Aside0 (wc.heap[gb106]? = some (.cells #[(.slice A0_0 l0_0.length c0_0),(.slice A0_1 l0_1.length c0_1)] 28 (0,0)))∧Aside0 (Below w.heap.size w wc))
       case first =>
        have H:=HC10.out
        clear HC10
        by_cases c11:0 ≤ x4_2
        ·rw [if_pos c11] at H
         have c11b0:decide (0 ≤ x4_2) = true:=decide_eq_true c11
         clear c11
         (first | rw [c11b0] | (simp only [i64_w,i32_w];rw [c11b0]) | skip)
         by_cases c12:x4_2 < (l0_0.length:Int)
         ·rw [if_pos c12] at H
          have c12b0:decide (x4_2 < (l0_0.length:Int)) = true:=decide_eq_true c12
          clear c12
          replace H:=Option.bind_eq_some_iff.mp H
          obtain ⟨t109,A130,H⟩:=H
          replace H:(if t109 = true then (if x4_2 < (l0_1.length:Int) then (spec_ChancesOk.j2 k2 (l0_0.length:Int) x4_2 (((rd_L1 l0_1 x4_2).length:Int) != (l0_0.length:Int)) l0_0 l0_1) else (none)) else (spec_ChancesOk.j2 k2 (l0_0.length:Int) x4_2 true l0_0 l0_1)) = some r:=H
          have A13:=Aside0.mk A130
          clear A130
          by_cases c14:t109 = true
          ·subst c14
           have H1:(if x4_2 < (l0_1.length:Int) then (spec_ChancesOk.j2 k2 (l0_0.length:Int) x4_2 (((rd_L1 l0_1 x4_2).length:Int) != (l0_0.length:Int)) l0_0 l0_1) else (none)) = some r:=by rw [if_pos rfl] at H;exact H
           clear H
           have H:=H1
           clear H1
           by_cases c15:x4_2 < (l0_1.length:Int)
           ·rw [if_pos c15] at H
            have c15b0:decide (x4_2 < (l0_1.length:Int)) = true:=decide_eq_true c15
            clear c15
            have H':=Aside0.mk H
            clear H
            have hcz16_0:wr.cell? ⟨gb106,0,none⟩ = some (.slice A0_0 l0_0.length c0_0):=(blk_cell BK106.out 0).trans rfl
            have hcz16_1:wr.cell? ⟨gb106,1,none⟩ = some (.slice A0_1 l0_1.length c0_1):=(blk_cell BK106.out 1).trans rfl
            have hfz16_0:=blk_frozen BK106.out 0
            have hfz16_1:=blk_frozen BK106.out 1
            have p108:0 ≤ (x4_2:Int):=of_decide_eq_true (by assumption)
            have q108:x4_2 < (l0_0.length:Int):=of_decide_eq_true (by assumption)
            obtain ⟨ad108,e108,hx108_0⟩:=Kd.at_int HR0_0.out x4_2 p108 q108
            cases e108
            replace hx108_0:=(HB.out.cell (World.block_lt_of_cell? w _ hx108_0)).trans hx108_0
            replace p108:=eq_true p108
            replace q108:=eq_true q108
            go_wp2_with (first | ((with_reducible refine gate_callee (f:=40) rfl ?_);refine goesL_ (some 30) rfl rfl Try.func40 (by kernel_rfl) rfl #[.int .i64 (rd l0_0 x4_2),.int .i64 0,.int .i64 9] rfl (by (try simp only [List.map_toArray,List.map_cons,List.map_nil]);first | done | rfl | (simp only [List.length_drop,List.length_take];rfl)) ?_;(with_reducible refine (spec_l6In.calls (rd l0_0 x4_2) 0 9 true _ A13.out).mono ?_);rintro e w' ⟨rfl,⟨nd,rfl⟩⟩;refine ⟨_,rfl,?_⟩;have p110:0 ≤ (x4_2:Int):=of_decide_eq_true (by first | (with_reducible assumption) | assumption);have q110:x4_2 < (l0_1.length:Int):=of_decide_eq_true (by first | (with_reducible assumption) | assumption);obtain ⟨ad110,A110_0,c110_0,e110,hx110_0,hl110_0,hi110_0⟩:=at_L1 HR0_1.out x4_2 p110 q110;cases e110;replace hx110_0:=(HB.out.cell (World.block_lt_of_cell? w _ hx110_0)).trans hx110_0;have HR110_0:=Aside0.mk hi110_0;have HC110_0:=Aside0.mk hl110_0;clear hi110_0 hl110_0;replace p110:=eq_true p110;replace q110:=eq_true q110))
            go_meet
            case rel=>exact ⟨_,((((rd_L1 l0_1 x4_2).length:Int) != (l0_0.length:Int))),(by first | rfl | (simp;done) | (simp [*];done)),H',⟨by have:=HJ1.out;have:=HK2.out;first | omega | exact Nat.le_refl _⟩,⟨by (with_reducible repeat (first | refine blk_drewN ?_ _ | refine blk_drew ?_ | refine blk_alloc ?_ _));exact BK106.out⟩,⟨by repeat (with_reducible first | exact HB.out | apply below_alloc | apply pw_below_drewN | apply below_drew1 | refine below_set ?_ GE106.out)⟩⟩
           ·rw [if_neg c15] at H
            exact absurd H (by simp)
          ·replace c14:=Bool.eq_false_iff.mpr c14
           subst c14
           have H1:(spec_ChancesOk.j2 k2 (l0_0.length:Int) x4_2 true l0_0 l0_1) = some r:=by rw [if_neg (show ¬ (false = true) by decide)] at H;exact H
           clear H
           have H:=H1
           clear H1
           have H':=Aside0.mk H
           clear H
           have hcz17_0:wr.cell? ⟨gb106,0,none⟩ = some (.slice A0_0 l0_0.length c0_0):=(blk_cell BK106.out 0).trans rfl
           have hcz17_1:wr.cell? ⟨gb106,1,none⟩ = some (.slice A0_1 l0_1.length c0_1):=(blk_cell BK106.out 1).trans rfl
           have hfz17_0:=blk_frozen BK106.out 0
           have hfz17_1:=blk_frozen BK106.out 1
           have p108:0 ≤ (x4_2:Int):=of_decide_eq_true (by assumption)
           have q108:x4_2 < (l0_0.length:Int):=of_decide_eq_true (by assumption)
           obtain ⟨ad108,e108,hx108_0⟩:=Kd.at_int HR0_0.out x4_2 p108 q108
           cases e108
           replace hx108_0:=(HB.out.cell (World.block_lt_of_cell? w _ hx108_0)).trans hx108_0
           replace p108:=eq_true p108
           replace q108:=eq_true q108
           go_wp2_with (first | ((with_reducible refine gate_callee (f:=40) rfl ?_);refine goesL_ (some 30) rfl rfl Try.func40 (by kernel_rfl) rfl #[.int .i64 (rd l0_0 x4_2),.int .i64 0,.int .i64 9] rfl (by (try simp only [List.map_toArray,List.map_cons,List.map_nil]);first | done | rfl | (simp only [List.length_drop,List.length_take];rfl)) ?_;(with_reducible refine (spec_l6In.calls (rd l0_0 x4_2) 0 9 false _ A13.out).mono ?_);rintro e w' ⟨rfl,⟨nd,rfl⟩⟩;refine ⟨_,rfl,?_⟩))
           go_meet
           case rel=>exact ⟨_,(true),(by first | rfl | (simp;done) | (simp [*];done)),H',⟨by have:=HJ1.out;have:=HK2.out;first | omega | exact Nat.le_refl _⟩,⟨by (with_reducible repeat (first | refine blk_drewN ?_ _ | refine blk_drew ?_ | refine blk_alloc ?_ _));exact BK106.out⟩,⟨by repeat (with_reducible first | exact HB.out | apply below_alloc | apply pw_below_drewN | apply below_drew1 | refine below_set ?_ GE106.out)⟩⟩
         ·rw [if_neg c12] at H
          exact absurd H (by simp)
        ·rw [if_neg c11] at H
         exact absurd H (by simp)
       case rest =>
        clear HC10
        try clear c1
        try clear p1
        try clear q1
        try clear hx1
        try clear p2
        try clear c4
        try clear c6
        try clear c8
        try clear c9
        try clear c9b0
        try clear p10
        try clear q10
        try clear hx10
        try clear c11
        try clear c11b0
        try clear p11
        try clear q11
        try clear hx11
        try clear c12
        try clear c12b0
        try clear c14
        try clear c15
        try clear c15b0
        try clear hcz16_0
        try clear hcz16_1
        try clear hcz17_0
        try clear hcz17_1
        try clear hcz4_0
        try clear hcz4_1
        try clear hcz7_0
        try clear hcz7_1
        try clear hfz16_0
        try clear hfz16_1
        try clear hfz17_0
        try clear hfz17_1
        try clear hfz4_0
        try clear hfz4_1
        try clear hfz7_0
        try clear hfz7_1
        try clear hx108_0
        try clear hx110_0
        try clear p108
        try clear p110
        try clear p2
        try clear q108
        try clear q110
        obtain ⟨kq,x41_9,rfl,HA,HJ9,BK106,HB⟩:=hcut
        cases kq with
        | zero=>exact absurd HA.out (by simp [spec_ChancesOk.j2])
        | succ kj9 =>
         have H:=HA.out
         clear HA
         simp only [spec_ChancesOk.j2] at H
         by_cases c18:x41_9 = true
         ·subst c18
          have H1:(some false) = some r:=by rw [if_pos rfl] at H;exact H
          clear H
          have H:=H1
          clear H1
          obtain rfl:=Option.some.inj H
          go_wp2
          go_ret
          exact ⟨rfl,by exact HB.out⟩
         ·replace c18:=Bool.eq_false_iff.mpr c18
          subst c18
          have H1:(spec_ChancesOk.l1 kj9 (l0_0.length:Int) x4_2 0 0 l0_0 l0_1) = some r:=by rw [if_neg (show ¬ (false = true) by decide)] at H;exact H
          clear H
          have H:=H1
          clear H1
          have H':=Aside0.mk H
          clear H
          go_wp2
          go_loopg [5,6] kj9 (fun kq v5 v6 w'=>∃ (x5_4:Int) (x6_4:Int),v5 = .int .i64 x5_4∧v6 = .int .i64 x6_4∧Aside0 (spec_ChancesOk.l1 kq (l0_0.length:Int) x4_2 x5_4 x6_4 l0_0 l0_1 = some r)∧Aside0 (kq ≤ kj9)∧Aside0 (w'.heap[gb106]? = some (.cells #[(.slice A0_0 l0_0.length c0_0),(.slice A0_1 l0_1.length c0_1)] 28 (0,0)))∧Aside0 (Below w.heap.size w w'))
          case atStart=>exact ⟨(0),(0),(by first | rfl | (simp;done) | (simp [*];done)),(by first | rfl | (simp;done) | (simp [*];done)),H',⟨Nat.le_refl _⟩,⟨by exact BK106.out⟩,⟨by exact HB.out⟩⟩
          case round =>
           clear H'
           try clear c1
           try clear p1
           try clear q1
           try clear hx1
           try clear p2
           try clear c4
           try clear c6
           try clear c8
           try clear c9
           try clear c9b0
           try clear p10
           try clear q10
           try clear hx10
           try clear c11
           try clear c11b0
           try clear p11
           try clear q11
           try clear hx11
           try clear c12
           try clear c12b0
           try clear c14
           try clear c15
           try clear c15b0
           try clear c18
           try clear hcz16_0
           try clear hcz16_1
           try clear hcz17_0
           try clear hcz17_1
           try clear hcz4_0
           try clear hcz4_1
           try clear hcz7_0
           try clear hcz7_1
           try clear hfz16_0
           try clear hfz16_1
           try clear hfz17_0
           try clear hfz17_1
           try clear hfz4_0
           try clear hfz4_1
           try clear hfz7_0
           try clear hfz7_1
           try clear hx108_0
           try clear hx110_0
           try clear p1
           try clear p10
           try clear p108
           try clear p11
           try clear p110
           try clear p2
           try clear q1
           try clear q10
           try clear q108
           try clear q11
           try clear q110
           obtain ⟨x5_4,x6_4,rfl,rfl,HA,HK4,BK106,HB⟩:=hrel
           cases gk with
           | zero=>exact absurd HA.out (by simp [spec_ChancesOk.l1])
           | succ k4 =>
            have H:=HA.out
            clear HA
            simp only [spec_ChancesOk.l1] at H
            by_cases c19:x6_4 < (l0_0.length:Int)
            ·rw [if_pos c19] at H
             have c19b0:decide (x6_4 < (l0_0.length:Int)) = true:=decide_eq_true c19
             clear c19
             by_cases c20:0 ≤ x4_2
             ·rw [if_pos c20] at H
              have c20b0:decide (0 ≤ x4_2) = true:=decide_eq_true c20
              clear c20
              by_cases c21:x4_2 < (l0_1.length:Int)
              ·rw [if_pos c21] at H
               have c21b0:decide (x4_2 < (l0_1.length:Int)) = true:=decide_eq_true c21
               clear c21
               by_cases c22:0 ≤ x6_4
               ·rw [if_pos c22] at H
                have c22b0:decide (0 ≤ x6_4) = true:=decide_eq_true c22
                clear c22
                by_cases c23:x6_4 < ((rd_L1 l0_1 x4_2).length:Int)
                ·rw [if_pos c23] at H
                 have c23b0:decide (x6_4 < ((rd_L1 l0_1 x4_2).length:Int)) = true:=decide_eq_true c23
                 clear c23
                 replace H:=Option.bind_eq_some_iff.mp H
                 obtain ⟨t113,A240,H⟩:=H
                 replace H:(if t113 = true then (spec_ChancesOk.l1 k4 (l0_0.length:Int) x4_2 (wrap64 (x5_4 + (rd (rd_L1 l0_1 x4_2) x6_4))) (wrap64 (x6_4 + 1)) l0_0 l0_1) else (some false)) = some r:=H
                 have A24:=Aside0.mk A240
                 clear A240
                 by_cases c25:t113 = true
                 ·subst c25
                  have H1:(spec_ChancesOk.l1 k4 (l0_0.length:Int) x4_2 (wrap64 (x5_4 + (rd (rd_L1 l0_1 x4_2) x6_4))) (wrap64 (x6_4 + 1)) l0_0 l0_1) = some r:=by rw [if_pos rfl] at H;exact H
                  clear H
                  have H:=H1
                  clear H1
                  have H':=Aside0.mk H
                  clear H
                  have hcz26_0:wr.cell? ⟨gb106,0,none⟩ = some (.slice A0_0 l0_0.length c0_0):=(blk_cell BK106.out 0).trans rfl
                  have hcz26_1:wr.cell? ⟨gb106,1,none⟩ = some (.slice A0_1 l0_1.length c0_1):=(blk_cell BK106.out 1).trans rfl
                  have hfz26_0:=blk_frozen BK106.out 0
                  have hfz26_1:=blk_frozen BK106.out 1
                  have p111:0 ≤ (x4_2:Int):=of_decide_eq_true (by assumption)
                  have q111:x4_2 < (l0_1.length:Int):=of_decide_eq_true (by assumption)
                  obtain ⟨ad111,A111_0,c111_0,e111,hx111_0,hl111_0,hi111_0⟩:=at_L1 HR0_1.out x4_2 p111 q111
                  cases e111
                  replace hx111_0:=(HB.out.cell (World.block_lt_of_cell? w _ hx111_0)).trans hx111_0
                  have HR111_0:=Aside0.mk hi111_0
                  have HC111_0:=Aside0.mk hl111_0
                  clear hi111_0 hl111_0
                  replace p111:=eq_true p111
                  replace q111:=eq_true q111
                  have p112:0 ≤ (x6_4:Int):=of_decide_eq_true (by assumption)
                  have q112:x6_4 < ((rd_L1 l0_1 x4_2).length:Int):=of_decide_eq_true (by assumption)
                  obtain ⟨ad112,e112,hx112_0⟩:=Kd.at_int HR111_0.out x6_4 p112 q112
                  cases e112
                  replace hx112_0:=(HB.out.cell (World.block_lt_of_cell? w _ hx112_0)).trans hx112_0
                  replace p112:=eq_true p112
                  replace q112:=eq_true q112
                  go_wp2_with (first | ((with_reducible refine gate_callee (f:=40) rfl ?_);refine goesL_ (some 55) rfl rfl Try.func40 (by kernel_rfl) rfl #[.int .i64 (rd (rd_L1 l0_1 x4_2) x6_4),.int .i64 0,.int .i64 6] rfl (by (try simp only [List.map_toArray,List.map_cons,List.map_nil]);first | done | rfl | (simp only [List.length_drop,List.length_take];rfl)) ?_;(with_reducible refine (spec_l6In.calls (rd (rd_L1 l0_1 x4_2) x6_4) 0 6 true _ A24.out).mono ?_);rintro e w' ⟨rfl,⟨nd,rfl⟩⟩;refine ⟨_,rfl,?_⟩;have p114:0 ≤ (x4_2:Int):=of_decide_eq_true (by first | (with_reducible assumption) | assumption);have q114:x4_2 < (l0_1.length:Int):=of_decide_eq_true (by first | (with_reducible assumption) | assumption);obtain ⟨ad114,A114_0,c114_0,e114,hx114_0,hl114_0,hi114_0⟩:=at_L1 HR0_1.out x4_2 p114 q114;obtain rfl:ad111 = ad114:=(by injection e114);replace hx114_0:=(HB.out.cell (World.block_lt_of_cell? w _ hx114_0)).trans hx114_0;have HR114_0:=Aside0.mk hi114_0;have HC114_0:=Aside0.mk hl114_0;clear hi114_0 hl114_0;replace p114:=eq_true p114;replace q114:=eq_true q114;have ea_:=Option.some.inj (hx111_0.symm.trans hx114_0);injection ea_ with ea_ en_ ec_;subst ea_;subst ec_;clear en_;have p115:0 ≤ (x6_4:Int):=of_decide_eq_true (by first | (with_reducible assumption) | assumption);have q115:x6_4 < ((rd_L1 l0_1 x4_2).length:Int):=of_decide_eq_true (by first | (with_reducible assumption) | assumption);obtain ⟨ad115,e115,hx115_0⟩:=Kd.at_int HR114_0.out x6_4 p115 q115;cases e115;replace hx115_0:=(HB.out.cell (World.block_lt_of_cell? w _ hx115_0)).trans hx115_0;replace p115:=eq_true p115;replace q115:=eq_true q115))
                  go_roundg k4
                  case measure=>have:=HJ1.out;have:=HK2.out;have:=HJ9.out;have:=HK4.out;omega
                  case rel=>exact ⟨(wrap64 (x5_4 + (rd (rd_L1 l0_1 x4_2) x6_4))),(wrap64 (x6_4 + 1)),(by first | rfl | (simp;done) | (simp [*];done)),(by first | rfl | (simp;done) | (simp [*];done)),H',⟨by have:=HJ1.out;have:=HK2.out;have:=HJ9.out;have:=HK4.out;omega⟩,⟨by (with_reducible repeat (first | refine blk_drewN ?_ _ | refine blk_drew ?_ | refine blk_alloc ?_ _));exact BK106.out⟩,⟨by repeat (with_reducible first | exact HB.out | apply below_alloc | apply pw_below_drewN | apply below_drew1 | refine below_set ?_ GE106.out)⟩⟩
                 ·replace c25:=Bool.eq_false_iff.mpr c25
                  subst c25
                  have H1:(some false) = some r:=by rw [if_neg (show ¬ (false = true) by decide)] at H;exact H
                  clear H
                  have H:=H1
                  clear H1
                  obtain rfl:=Option.some.inj H
                  have hcz27_0:wr.cell? ⟨gb106,0,none⟩ = some (.slice A0_0 l0_0.length c0_0):=(blk_cell BK106.out 0).trans rfl
                  have hcz27_1:wr.cell? ⟨gb106,1,none⟩ = some (.slice A0_1 l0_1.length c0_1):=(blk_cell BK106.out 1).trans rfl
                  have hfz27_0:=blk_frozen BK106.out 0
                  have hfz27_1:=blk_frozen BK106.out 1
                  have p111:0 ≤ (x4_2:Int):=of_decide_eq_true (by assumption)
                  have q111:x4_2 < (l0_1.length:Int):=of_decide_eq_true (by assumption)
                  obtain ⟨ad111,A111_0,c111_0,e111,hx111_0,hl111_0,hi111_0⟩:=at_L1 HR0_1.out x4_2 p111 q111
                  cases e111
                  replace hx111_0:=(HB.out.cell (World.block_lt_of_cell? w _ hx111_0)).trans hx111_0
                  have HR111_0:=Aside0.mk hi111_0
                  have HC111_0:=Aside0.mk hl111_0
                  clear hi111_0 hl111_0
                  replace p111:=eq_true p111
                  replace q111:=eq_true q111
                  have p112:0 ≤ (x6_4:Int):=of_decide_eq_true (by assumption)
                  have q112:x6_4 < ((rd_L1 l0_1 x4_2).length:Int):=of_decide_eq_true (by assumption)
                  obtain ⟨ad112,e112,hx112_0⟩:=Kd.at_int HR111_0.out x6_4 p112 q112
                  cases e112
                  replace hx112_0:=(HB.out.cell (World.block_lt_of_cell? w _ hx112_0)).trans hx112_0
                  replace p112:=eq_true p112
                  replace q112:=eq_true q112
                  go_wp2_with (first | ((with_reducible refine gate_callee (f:=40) rfl ?_);refine goesL_ (some 55) rfl rfl Try.func40 (by kernel_rfl) rfl #[.int .i64 (rd (rd_L1 l0_1 x4_2) x6_4),.int .i64 0,.int .i64 6] rfl (by (try simp only [List.map_toArray,List.map_cons,List.map_nil]);first | done | rfl | (simp only [List.length_drop,List.length_take];rfl)) ?_;(with_reducible refine (spec_l6In.calls (rd (rd_L1 l0_1 x4_2) x6_4) 0 6 false _ A24.out).mono ?_);rintro e w' ⟨rfl,⟨nd,rfl⟩⟩;refine ⟨_,rfl,?_⟩))
                  go_ret
                  exact ⟨by first | rfl | (simp [errW_none,errW_some] <;> rfl) | (simp [*,errW_none,errW_some] <;> rfl),by repeat (with_reducible first | exact HB.out | apply below_alloc | apply pw_below_drewN | apply below_drew1 | refine below_set ?_ GE106.out)⟩
                ·rw [if_neg c23] at H
                 exact absurd H (by simp)
               ·rw [if_neg c22] at H
                exact absurd H (by simp)
              ·rw [if_neg c21] at H
               exact absurd H (by simp)
             ·rw [if_neg c20] at H
              exact absurd H (by simp)
            ·rw [if_neg c19] at H
             have c19b0:decide (x6_4 < (l0_0.length:Int)) = false:=decide_eq_false c19
             clear c19
             by_cases c28:x5_4 = 6
             ·rw [if_pos c28] at H
              have c28b0:(x5_4 == 6) = true:=beq_iff_eq.mpr c28
              have c28b1:(x5_4 != 6) = false:=bne_eq_false_iff_eq.mpr c28
              clear c28
              have H':=Aside0.mk H
              clear H
              go_wp2
              go_roundg k4
              case measure=>have:=HJ1.out;have:=HK2.out;have:=HJ9.out;have:=HK4.out;omega
              case rel=>exact ⟨(wrap64 (x4_2 + 1)),(by first | rfl | (simp;done) | (simp [*];done)),H',⟨by have:=HJ1.out;have:=HK2.out;have:=HJ9.out;have:=HK4.out;omega⟩,⟨by exact BK106.out⟩,⟨by exact HB.out⟩⟩
             ·rw [if_neg c28] at H
              have c28b0:(x5_4 == 6) = false:=beq_eq_false_iff_ne.mpr c28
              have c28b1:(x5_4 != 6) = true:=bne_iff_ne.mpr c28
              obtain rfl:=Option.some.inj H
              go_wp2
              go_ret
              exact ⟨rfl,by exact HB.out⟩
      ·rw [if_neg c9] at H
       have c9b0:decide (x4_2 < (l0_0.length:Int)) = false:=decide_eq_false c9
       clear c9
       obtain rfl:=Option.some.inj H
       go_wp2
       go_ret
       exact ⟨rfl,by exact HB.out⟩
mutual
def impl_ChancesOk.j0:Nat → Int → Bool → List Int → List (List Int) → Option (Bool)
 | 0,_,_,_,_=>none
 | k + 1,x3,x24,x139000,x139001=>if x24 = true then (some false) else (impl_ChancesOk.l0 k x3 x139001 (x139001.length:Int) 0 x139000 x139001)
def impl_ChancesOk.l0:Nat → Int → List (List Int) → Int → Int → List Int → List (List Int) → Option (Bool)
 | 0,_,_,_,_,_,_=>none
 | k + 1,x3,x26,x27,x28,x139000,x139001=>if x28 < x27 then (if 0 ≤ x28 then (if x28 < (x26.length:Int) then (if x28 < (x139000.length:Int) then (if (rd x139000 x28) < 0 then (impl_ChancesOk.j2 k x3 (rd_L1 x26 x28) x26 x27 x28 true x139000 x139001) else (if (rd x139000 x28) > 9 then (impl_ChancesOk.j2 k x3 (rd_L1 x26 x28) x26 x27 x28 true x139000 x139001) else (impl_ChancesOk.j2 k x3 (rd_L1 x26 x28) x26 x27 x28 (((rd_L1 x26 x28).length:Int) != x3) x139000 x139001))) else (none)) else (none)) else (none)) else (some true)
def impl_ChancesOk.j2:Nat → Int → List Int → List (List Int) → Int → Int → Bool → List Int → List (List Int) → Option (Bool)
 | 0,_,_,_,_,_,_,_,_=>none
 | k + 1,x3,x5,x26,x27,x28,x52,x139000,x139001=>if x52 = true then (some false) else (impl_ChancesOk.l1 k x3 0 x26 x27 x28 x5 (x5.length:Int) 0 x139000 x139001)
def impl_ChancesOk.l1:Nat → Int → Int → List (List Int) → Int → Int → List Int → Int → Int → List Int → List (List Int) → Option (Bool)
 | 0,_,_,_,_,_,_,_,_,_,_=>none
 | k + 1,x3,x6,x26,x27,x28,x53,x54,x55,x139000,x139001=>if x55 < x54 then (if 0 ≤ x55 then (if x55 < (x53.length:Int) then (if (rd x53 x55) < 0 then (some false) else (if (rd x53 x55) > 6 then (some false) else (impl_ChancesOk.l1 k x3 (wrap64 (x6 + (rd x53 x55))) x26 x27 x28 x53 x54 (wrap64 (x55 + 1)) x139000 x139001))) else (none)) else (none)) else (if x6 = 6 then (impl_ChancesOk.l0 k x3 x26 x27 (wrap64 (x28 + 1)) x139000 x139001) else (some false))
end
def impl_ChancesOk.f (k:Nat) (l0_0:List Int) (l0_1:List (List Int)):Option (Bool):=if (l0_0.length:Int) < 1 then (impl_ChancesOk.j0 k (l0_0.length:Int) true l0_0 l0_1) else (if (l0_0.length:Int) > 60 then (impl_ChancesOk.j0 k (l0_0.length:Int) true l0_0 l0_1) else (impl_ChancesOk.j0 k (l0_0.length:Int) ((l0_1.length:Int) != (l0_0.length:Int)) l0_0 l0_1))
theorem impl_ChancesOk.mono_l:∀ k,(∀ y0 y1 y2 y3,LeO (impl_ChancesOk.j0 k y0 y1 y2 y3) (impl_ChancesOk.j0 (k + 1) y0 y1 y2 y3))∧(∀ y0 y1 y2 y3 y4 y5,LeO (impl_ChancesOk.l0 k y0 y1 y2 y3 y4 y5) (impl_ChancesOk.l0 (k + 1) y0 y1 y2 y3 y4 y5))∧(∀ y0 y1 y2 y3 y4 y5 y6 y7,LeO (impl_ChancesOk.j2 k y0 y1 y2 y3 y4 y5 y6 y7) (impl_ChancesOk.j2 (k + 1) y0 y1 y2 y3 y4 y5 y6 y7))∧(∀ y0 y1 y2 y3 y4 y5 y6 y7 y8 y9,LeO (impl_ChancesOk.l1 k y0 y1 y2 y3 y4 y5 y6 y7 y8 y9) (impl_ChancesOk.l1 (k + 1) y0 y1 y2 y3 y4 y5 y6 y7 y8 y9))
 | 0=>⟨fun _ _ _ _ r h=>by simp [impl_ChancesOk.j0] at h,fun _ _ _ _ _ _ r h=>by simp [impl_ChancesOk.l0] at h,fun _ _ _ _ _ _ _ _ r h=>by simp [impl_ChancesOk.j2] at h,fun _ _ _ _ _ _ _ _ _ _ r h=>by simp [impl_ChancesOk.l1] at h⟩
 | k + 1=>by
  obtain ⟨ih0,ih1,ih2,ih3⟩:=impl_ChancesOk.mono_l k
  refine ⟨?_,?_,?_,?_⟩
  ·intro y0 y1 y2 y3
   unfold impl_ChancesOk.j0
   repeat' first
   | (with_reducible exact ih0 _ _ _ _)
   | (with_reducible exact ih1 _ _ _ _ _ _)
   | (with_reducible exact ih2 _ _ _ _ _ _ _ _)
   | (with_reducible exact ih3 _ _ _ _ _ _ _ _ _ _)
   | (with_reducible exact LeO.refl _)
   | (with_reducible exact LeO.none _)
   | (with_reducible refine LeO.ite ?_ ?_)
   | (with_reducible refine LeO.bind ?_ (fun _=>?_))
   | exact ih0 _ _ _ _
   | exact ih1 _ _ _ _ _ _
   | exact ih2 _ _ _ _ _ _ _ _
   | exact ih3 _ _ _ _ _ _ _ _ _ _
   | exact LeO.none _
   | refine LeO.ite ?_ ?_
   | refine LeO.bind ?_ (fun _=>?_)
  ·intro y0 y1 y2 y3 y4 y5
   unfold impl_ChancesOk.l0
   repeat' first
   | (with_reducible exact ih0 _ _ _ _)
   | (with_reducible exact ih1 _ _ _ _ _ _)
   | (with_reducible exact ih2 _ _ _ _ _ _ _ _)
   | (with_reducible exact ih3 _ _ _ _ _ _ _ _ _ _)
   | (with_reducible exact LeO.refl _)
   | (with_reducible exact LeO.none _)
   | (with_reducible refine LeO.ite ?_ ?_)
   | (with_reducible refine LeO.bind ?_ (fun _=>?_))
   | exact ih0 _ _ _ _
   | exact ih1 _ _ _ _ _ _
   | exact ih2 _ _ _ _ _ _ _ _
   | exact ih3 _ _ _ _ _ _ _ _ _ _
   | exact LeO.none _
   | refine LeO.ite ?_ ?_
   | refine LeO.bind ?_ (fun _=>?_)
  ·intro y0 y1 y2 y3 y4 y5 y6 y7
   unfold impl_ChancesOk.j2
   repeat' first
   | (with_reducible exact ih0 _ _ _ _)
   | (with_reducible exact ih1 _ _ _ _ _ _)
   | (with_reducible exact ih2 _ _ _ _ _ _ _ _)
   | (with_reducible exact ih3 _ _ _ _ _ _ _ _ _ _)
   | (with_reducible exact LeO.refl _)
   | (with_reducible exact LeO.none _)
   | (with_reducible refine LeO.ite ?_ ?_)
   | (with_reducible refine LeO.bind ?_ (fun _=>?_))
   | exact ih0 _ _ _ _
   | exact ih1 _ _ _ _ _ _
   | exact ih2 _ _ _ _ _ _ _ _
   | exact ih3 _ _ _ _ _ _ _ _ _ _
   | exact LeO.none _
   | refine LeO.ite ?_ ?_
   | refine LeO.bind ?_ (fun _=>?_)
  ·intro y0 y1 y2 y3 y4 y5 y6 y7 y8 y9
   unfold impl_ChancesOk.l1
   repeat' first
   | (with_reducible exact ih0 _ _ _ _)
   | (with_reducible exact ih1 _ _ _ _ _ _)
   | (with_reducible exact ih2 _ _ _ _ _ _ _ _)
   | (with_reducible exact ih3 _ _ _ _ _ _ _ _ _ _)
   | (with_reducible exact LeO.refl _)
   | (with_reducible exact LeO.none _)
   | (with_reducible refine LeO.ite ?_ ?_)
   | (with_reducible refine LeO.bind ?_ (fun _=>?_))
   | exact ih0 _ _ _ _
   | exact ih1 _ _ _ _ _ _
   | exact ih2 _ _ _ _ _ _ _ _
   | exact ih3 _ _ _ _ _ _ _ _ _ _
   | exact LeO.none _
   | refine LeO.ite ?_ ?_
   | refine LeO.bind ?_ (fun _=>?_)
theorem impl_ChancesOk.mono:∀ a0 a1 k,LeO (impl_ChancesOk.f k a0 a1) (impl_ChancesOk.f (k + 1) a0 a1):=by
 intro a0 a1 k
 obtain ⟨ih0,ih1,ih2,ih3⟩:=impl_ChancesOk.mono_l k
 unfold impl_ChancesOk.f
 repeat' first
   | (with_reducible exact ih0 _ _ _ _)
   | (with_reducible exact ih1 _ _ _ _ _ _)
   | (with_reducible exact ih2 _ _ _ _ _ _ _ _)
   | (with_reducible exact ih3 _ _ _ _ _ _ _ _ _ _)
   | (with_reducible exact LeO.refl _)
   | (with_reducible exact LeO.none _)
   | (with_reducible refine LeO.ite ?_ ?_)
   | (with_reducible refine LeO.bind ?_ (fun _=>?_))
   | exact ih0 _ _ _ _
   | exact ih1 _ _ _ _ _ _
   | exact ih2 _ _ _ _ _ _ _ _
   | exact ih3 _ _ _ _ _ _ _ _ _ _
   | exact LeO.none _
   | refine LeO.ite ?_ ?_
   | refine LeO.bind ?_ (fun _=>?_)
set_option maxHeartbeats 8000000 in
set_option maxRecDepth 100000 in
theorem impl_ChancesOk.calls (k:Nat) (A0_0:Option Addr) (c0_0:Nat) (l0_0:List Int) (A0_1:Option Addr) (c0_1:Nat) (l0_1:List (List Int)) (r:Bool) (w:World) (hr0_0:Kd.C (Kd.int .i64) w A0_0 l0_0.length l0_0) (hc0_0:l0_0.length ≤ c0_0) (hr0_1:Kd.C (Kd.slice 3 (Kd.int .i64)) w A0_1 l0_1.length l0_1) (hc0_1:l0_1.length ≤ c0_1) (h:impl_ChancesOk.f k l0_0 l0_1 = some r) :
  Calls Try.prog 16 #[.agg #[.slice A0_0 l0_0.length c0_0,.slice A0_1 l0_1.length c0_1]] w fun e w'=>e = .returned (.bool r)∧Below w.heap.size w w':=by
 have hu28:=Try.underlying28
 have HR0_0:=Aside0.mk hr0_0
 have HC0_0:=Aside0.mk hc0_0
 clear hr0_0 hc0_0
 have HR0_1:=Aside0.mk hr0_1
 have HC0_1:=Aside0.mk hc0_1
 clear hr0_1 hc0_1
 have HB:=Aside0.mk (Below.refl w.heap.size w)
 have H:(if (l0_0.length:Int) < 1 then (impl_ChancesOk.j0 k (l0_0.length:Int) true l0_0 l0_1) else (if (l0_0.length:Int) > 60 then (impl_ChancesOk.j0 k (l0_0.length:Int) true l0_0 l0_1) else (impl_ChancesOk.j0 k (l0_0.length:Int) ((l0_1.length:Int) != (l0_0.length:Int)) l0_0 l0_1))) = some r:=h
 clear h
 have HC2:=Aside0.mk H
 clear H
 go_enter Try.func16,Try.ntmps16
 go_upto_region 2 with (first | ((with_reducible refine gate_dst (N:=1) rfl ?_);(try (refine gate_guard (by rfl) ?_;dsimp only));refine box_event ?hg (N:=1) ?hd (cs:=#[.slice A0_0 l0_0.length c0_0,.slice A0_1 l0_1.length c0_1]) (t:=28) ?hr ?_;(case hd=>rfl);(case hg=>rfl);(case hr=>first | (go_simp;done) | (go_simp;rfl));intro gb138 hg w3 hbox hb;have n0_:=Aside0.mk (below_step (by exact HB.out) hb);have n1_:=Aside0.mk (hbox);have n2_:=Aside0.mk ((by rw [hg];exact (below_size (by exact HB.out)):w.heap.size ≤ gb138));have n3_:=Aside0.mk ((by rw [hg];exact (below_size (by exact HB.out)):w.heap.size ≤ gb138));clear HB;have HB:=n0_;have BK138:=n1_;have GW138:=n2_;have GE138:=n3_;clear n0_ n1_ n2_ n3_;clear hb hbox hg;have hcz4_0:w3.cell? ⟨gb138,0,none⟩ = some (.slice A0_0 l0_0.length c0_0):=(blk_cell BK138.out 0).trans rfl;have hcz4_1:w3.cell? ⟨gb138,1,none⟩ = some (.slice A0_1 l0_1.length c0_1):=(blk_cell BK138.out 1).trans rfl;have hfz4_0:=blk_frozen BK138.out 0;have hfz4_1:=blk_frozen BK138.out 1))
 (try simp only [Act.put,List.setIfInBounds_toArray,List.set_cons_zero,List.set_cons_succ])
 go_cut [24] (fun v24 wc=>∃ (kq:Nat) (x24_1:Bool),v24 = .bool x24_1∧Aside0 (impl_ChancesOk.j0 kq (l0_0.length:Int) x24_1 l0_0 l0_1 = some r)∧Aside0 (kq ≤ k)∧Aside0 (wc.heap[gb138]? = some (.cells #[(.slice A0_0 l0_0.length c0_0),(.slice A0_1 l0_1.length c0_1)] 28 (0,0)))∧Aside0 (Below w.heap.size w wc))
 case first =>
  have H:=HC2.out
  clear HC2
  by_cases c5:(l0_0.length:Int) < 1
  ·rw [if_pos c5] at H
   have c5b0:decide ((l0_0.length:Int) < 1) = true:=decide_eq_true c5
   have c5b1:decide (l0_0.length < 1) = true:=decide_eq_true (by omega)
   clear c5
   (first | rw [c5b0] | (simp only [i64_w,i32_w];rw [c5b0]) | skip)
   have H':=Aside0.mk H
   clear H
   go_wp2
   go_meet
   case rel=>exact ⟨_,(true),(by first | rfl | (simp;done) | (simp [*];done)),H',⟨by first | omega | exact Nat.le_refl _⟩,⟨by exact BK138.out⟩,⟨by exact HB.out⟩⟩
  ·rw [if_neg c5] at H
   have c5b0:decide ((l0_0.length:Int) < 1) = false:=decide_eq_false c5
   have c5b1:decide (l0_0.length < 1) = false:=decide_eq_false (by omega)
   clear c5
   (first | rw [c5b0] | (simp only [i64_w,i32_w];rw [c5b0]) | skip)
   by_cases c6:(l0_0.length:Int) > 60
   ·rw [if_pos c6] at H
    have c6b0:decide (60 < (l0_0.length:Int)) = true:=decide_eq_true c6
    have c6b1:decide (60 < l0_0.length) = true:=decide_eq_true (by omega)
    clear c6
    have H':=Aside0.mk H
    clear H
    go_wp2
    go_meet
    case rel=>exact ⟨_,(true),(by first | rfl | (simp;done) | (simp [*];done)),H',⟨by first | omega | exact Nat.le_refl _⟩,⟨by exact BK138.out⟩,⟨by exact HB.out⟩⟩
   ·rw [if_neg c6] at H
    have c6b0:decide (60 < (l0_0.length:Int)) = false:=decide_eq_false c6
    have c6b1:decide (60 < l0_0.length) = false:=decide_eq_false (by omega)
    clear c6
    have H':=Aside0.mk H
    clear H
    have hcz7_0:w3.cell? ⟨gb138,0,none⟩ = some (.slice A0_0 l0_0.length c0_0):=(blk_cell BK138.out 0).trans rfl
    have hcz7_1:w3.cell? ⟨gb138,1,none⟩ = some (.slice A0_1 l0_1.length c0_1):=(blk_cell BK138.out 1).trans rfl
    have hfz7_0:=blk_frozen BK138.out 0
    have hfz7_1:=blk_frozen BK138.out 1
    go_wp2
    go_meet
    case rel=>exact ⟨_,(((l0_1.length:Int) != (l0_0.length:Int))),(by first | rfl | (simp;done) | (simp [*];done)),H',⟨by first | omega | exact Nat.le_refl _⟩,⟨by exact BK138.out⟩,⟨by exact HB.out⟩⟩
 case rest =>
  clear HC2
  try clear c1
  try clear p2
  try clear c5
  try clear c5b0
  try clear c5b1
  try clear c6
  try clear c6b0
  try clear c6b1
  try clear hcz4_0
  try clear hcz4_1
  try clear hcz7_0
  try clear hcz7_1
  try clear hfz4_0
  try clear hfz4_1
  try clear hfz7_0
  try clear hfz7_1
  obtain ⟨kq,x24_1,rfl,HA,HJ1,BK138,HB⟩:=hcut
  cases kq with
  | zero=>exact absurd HA.out (by simp [impl_ChancesOk.j0])
  | succ kj1 =>
   have H:=HA.out
   clear HA
   simp only [impl_ChancesOk.j0] at H
   by_cases c8:x24_1 = true
   ·subst c8
    have H1:(some false) = some r:=by rw [if_pos rfl] at H;exact H
    clear H
    have H:=H1
    clear H1
    obtain rfl:=Option.some.inj H
    go_wp2
    go_ret
    exact ⟨rfl,by exact HB.out⟩
   ·replace c8:=Bool.eq_false_iff.mpr c8
    subst c8
    have H1:(impl_ChancesOk.l0 kj1 (l0_0.length:Int) l0_1 (l0_1.length:Int) 0 l0_0 l0_1) = some r:=by rw [if_neg (show ¬ (false = true) by decide)] at H;exact H
    clear H
    have H:=H1
    clear H1
    have H':=Aside0.mk H
    clear H
    have hcz9_0:wc.cell? ⟨gb138,0,none⟩ = some (.slice A0_0 l0_0.length c0_0):=(blk_cell BK138.out 0).trans rfl
    have hcz9_1:wc.cell? ⟨gb138,1,none⟩ = some (.slice A0_1 l0_1.length c0_1):=(blk_cell BK138.out 1).trans rfl
    have hfz9_0:=blk_frozen BK138.out 0
    have hfz9_1:=blk_frozen BK138.out 1
    go_wp2
    go_loopg [28] kj1 (fun kq v28 w'=>∃ (x28_2:Int),v28 = .int .i64 x28_2∧Aside0 (impl_ChancesOk.l0 kq (l0_0.length:Int) l0_1 (l0_1.length:Int) x28_2 l0_0 l0_1 = some r)∧Aside0 (kq ≤ kj1)∧Aside0 (w'.heap[gb138]? = some (.cells #[(.slice A0_0 l0_0.length c0_0),(.slice A0_1 l0_1.length c0_1)] 28 (0,0)))∧Aside0 (Below w.heap.size w w'))
    case atStart=>exact ⟨(0),(by first | rfl | (simp;done) | (simp [*];done)),H',⟨Nat.le_refl _⟩,⟨by exact BK138.out⟩,⟨by exact HB.out⟩⟩
    case round =>
     clear H'
     try clear c1
     try clear p2
     try clear c5
     try clear c5b0
     try clear c5b1
     try clear c6
     try clear c6b0
     try clear c6b1
     try clear c8
     try clear hcz4_0
     try clear hcz4_1
     try clear hcz7_0
     try clear hcz7_1
     try clear hcz9_0
     try clear hcz9_1
     try clear hfz4_0
     try clear hfz4_1
     try clear hfz7_0
     try clear hfz7_1
     try clear hfz9_0
     try clear hfz9_1
     try clear p2
     obtain ⟨x28_2,rfl,HA,HK2,BK138,HB⟩:=hrel
     cases gk with
     | zero=>exact absurd HA.out (by simp [impl_ChancesOk.l0])
     | succ k2 =>
      have H:=HA.out
      clear HA
      simp only [impl_ChancesOk.l0] at H
      by_cases c10:x28_2 < (l0_1.length:Int)
      ·rw [if_pos c10] at H
       have c10b0:decide (x28_2 < (l0_1.length:Int)) = true:=decide_eq_true c10
       clear c10
       by_cases c11:0 ≤ x28_2
       ·rw [if_pos c11] at H
        have c11b0:decide (0 ≤ x28_2) = true:=decide_eq_true c11
        clear c11
        by_cases c12:x28_2 < (l0_1.length:Int)
        ·rw [if_pos c12] at H
         have c12b0:decide (x28_2 < (l0_1.length:Int)) = true:=decide_eq_true c12
         clear c12
         have HC13:=Aside0.mk H
         clear H
         have p139:0 ≤ (x28_2:Int):=of_decide_eq_true (by assumption)
         have q139:x28_2 < (l0_1.length:Int):=of_decide_eq_true (by assumption)
         obtain ⟨ad139,A139_0,c139_0,e139,hx139_0,hl139_0,hi139_0⟩:=at_L1 HR0_1.out x28_2 p139 q139
         cases e139
         replace hx139_0:=(HB.out.cell (World.block_lt_of_cell? w _ hx139_0)).trans hx139_0
         have HR139_0:=Aside0.mk hi139_0
         have HC139_0:=Aside0.mk hl139_0
         clear hi139_0 hl139_0
         replace p139:=eq_true p139
         replace q139:=eq_true q139
         go_upto_region 7 with (fail)
         go_cut [52] (fun v52 wc=>∃ (kq:Nat) (x52_12:Bool),v52 = .bool x52_12∧Aside0 (impl_ChancesOk.j2 kq (l0_0.length:Int) (rd_L1 l0_1 x28_2) l0_1 (l0_1.length:Int) x28_2 x52_12 l0_0 l0_1 = some r)∧Aside0 (kq ≤ k2)∧Aside0 (wc.heap[gb138]? = some (.cells #[(.slice A0_0 l0_0.length c0_0),(.slice (some ad139) l0_1.length c0_1)] 28 (0,0)))∧Aside0 (Below w.heap.size w wc))
         case first =>
          have H:=HC13.out
          clear HC13
          by_cases c14:x28_2 < (l0_0.length:Int)
          ·rw [if_pos c14] at H
           have c14b0:decide (x28_2 < (l0_0.length:Int)) = true:=decide_eq_true c14
           clear c14
           (first | rw [c14b0] | (simp only [i64_w,i32_w];rw [c14b0]) | skip)
           by_cases c15:(rd l0_0 x28_2) < 0
           ·rw [if_pos c15] at H
            have c15b0:decide ((rd l0_0 x28_2) < 0) = true:=decide_eq_true c15
            clear c15
            have H':=Aside0.mk H
            clear H
            have hcz16_0:wr.cell? ⟨gb138,0,none⟩ = some (.slice A0_0 l0_0.length c0_0):=(blk_cell BK138.out 0).trans rfl
            have hcz16_1:wr.cell? ⟨gb138,1,none⟩ = some (.slice (some ad139) l0_1.length c0_1):=(blk_cell BK138.out 1).trans rfl
            have hfz16_0:=blk_frozen BK138.out 0
            have hfz16_1:=blk_frozen BK138.out 1
            have p140:0 ≤ (x28_2:Int):=of_decide_eq_true (by assumption)
            have q140:x28_2 < (l0_0.length:Int):=of_decide_eq_true (by assumption)
            obtain ⟨ad140,e140,hx140_0⟩:=Kd.at_int HR0_0.out x28_2 p140 q140
            cases e140
            replace hx140_0:=(HB.out.cell (World.block_lt_of_cell? w _ hx140_0)).trans hx140_0
            replace p140:=eq_true p140
            replace q140:=eq_true q140
            go_wp2
            go_meet
            case rel=>exact ⟨_,(true),(by first | rfl | (simp;done) | (simp [*];done)),H',⟨by have:=HJ1.out;have:=HK2.out;first | omega | exact Nat.le_refl _⟩,⟨by exact BK138.out⟩,⟨by exact HB.out⟩⟩
           ·rw [if_neg c15] at H
            have c15b0:decide ((rd l0_0 x28_2) < 0) = false:=decide_eq_false c15
            clear c15
            by_cases c17:(rd l0_0 x28_2) > 9
            ·rw [if_pos c17] at H
             have c17b0:decide (9 < (rd l0_0 x28_2)) = true:=decide_eq_true c17
             clear c17
             have H':=Aside0.mk H
             clear H
             have hcz18_0:wr.cell? ⟨gb138,0,none⟩ = some (.slice A0_0 l0_0.length c0_0):=(blk_cell BK138.out 0).trans rfl
             have hcz18_1:wr.cell? ⟨gb138,1,none⟩ = some (.slice (some ad139) l0_1.length c0_1):=(blk_cell BK138.out 1).trans rfl
             have hfz18_0:=blk_frozen BK138.out 0
             have hfz18_1:=blk_frozen BK138.out 1
             have p140:0 ≤ (x28_2:Int):=of_decide_eq_true (by assumption)
             have q140:x28_2 < (l0_0.length:Int):=of_decide_eq_true (by assumption)
             obtain ⟨ad140,e140,hx140_0⟩:=Kd.at_int HR0_0.out x28_2 p140 q140
             cases e140
             replace hx140_0:=(HB.out.cell (World.block_lt_of_cell? w _ hx140_0)).trans hx140_0
             replace p140:=eq_true p140
             replace q140:=eq_true q140
             have p141:0 ≤ (x28_2:Int):=of_decide_eq_true (by assumption)
             have q141:x28_2 < (l0_0.length:Int):=of_decide_eq_true (by assumption)
             obtain ⟨ad141,e141,hx141_0⟩:=Kd.at_int HR0_0.out x28_2 p141 q141
             obtain rfl:ad140 = ad141:=(by injection e141)
             replace hx141_0:=(HB.out.cell (World.block_lt_of_cell? w _ hx141_0)).trans hx141_0
             replace p141:=eq_true p141
             replace q141:=eq_true q141
             go_wp2
             go_meet
             case rel=>exact ⟨_,(true),(by first | rfl | (simp;done) | (simp [*];done)),H',⟨by have:=HJ1.out;have:=HK2.out;first | omega | exact Nat.le_refl _⟩,⟨by exact BK138.out⟩,⟨by exact HB.out⟩⟩
            ·rw [if_neg c17] at H
             have c17b0:decide (9 < (rd l0_0 x28_2)) = false:=decide_eq_false c17
             clear c17
             have H':=Aside0.mk H
             clear H
             have hcz19_0:wr.cell? ⟨gb138,0,none⟩ = some (.slice A0_0 l0_0.length c0_0):=(blk_cell BK138.out 0).trans rfl
             have hcz19_1:wr.cell? ⟨gb138,1,none⟩ = some (.slice (some ad139) l0_1.length c0_1):=(blk_cell BK138.out 1).trans rfl
             have hfz19_0:=blk_frozen BK138.out 0
             have hfz19_1:=blk_frozen BK138.out 1
             have p140:0 ≤ (x28_2:Int):=of_decide_eq_true (by assumption)
             have q140:x28_2 < (l0_0.length:Int):=of_decide_eq_true (by assumption)
             obtain ⟨ad140,e140,hx140_0⟩:=Kd.at_int HR0_0.out x28_2 p140 q140
             cases e140
             replace hx140_0:=(HB.out.cell (World.block_lt_of_cell? w _ hx140_0)).trans hx140_0
             replace p140:=eq_true p140
             replace q140:=eq_true q140
             have p141:0 ≤ (x28_2:Int):=of_decide_eq_true (by assumption)
             have q141:x28_2 < (l0_0.length:Int):=of_decide_eq_true (by assumption)
             obtain ⟨ad141,e141,hx141_0⟩:=Kd.at_int HR0_0.out x28_2 p141 q141
             obtain rfl:ad140 = ad141:=(by injection e141)
             replace hx141_0:=(HB.out.cell (World.block_lt_of_cell? w _ hx141_0)).trans hx141_0
             replace p141:=eq_true p141
             replace q141:=eq_true q141
             go_wp2
             go_meet
             case rel=>exact ⟨_,((((rd_L1 l0_1 x28_2).length:Int) != (l0_0.length:Int))),(by first | rfl | (simp;done) | (simp [*];done)),H',⟨by have:=HJ1.out;have:=HK2.out;first | omega | exact Nat.le_refl _⟩,⟨by exact BK138.out⟩,⟨by exact HB.out⟩⟩
          ·rw [if_neg c14] at H
           exact absurd H (by simp)
         case rest =>
          clear HC13
          try clear c1
          try clear p1
          try clear q1
          try clear hx1
          try clear p2
          try clear c5
          try clear c5b0
          try clear c5b1
          try clear c6
          try clear c6b0
          try clear c6b1
          try clear c8
          try clear c10
          try clear c10b0
          try clear c11
          try clear c11b0
          try clear c12
          try clear c12b0
          try clear c13
          try clear p13
          try clear q13
          try clear hx13
          try clear c14
          try clear c14b0
          try clear p14
          try clear q14
          try clear hx14
          try clear c15
          try clear c15b0
          try clear c16
          try clear c17
          try clear c17b0
          try clear hcz16_0
          try clear hcz16_1
          try clear hcz18_0
          try clear hcz18_1
          try clear hcz19_0
          try clear hcz19_1
          try clear hcz4_0
          try clear hcz4_1
          try clear hcz7_0
          try clear hcz7_1
          try clear hcz9_0
          try clear hcz9_1
          try clear hfz16_0
          try clear hfz16_1
          try clear hfz18_0
          try clear hfz18_1
          try clear hfz19_0
          try clear hfz19_1
          try clear hfz4_0
          try clear hfz4_1
          try clear hfz7_0
          try clear hfz7_1
          try clear hfz9_0
          try clear hfz9_1
          try clear hx139_0
          try clear hx140_0
          try clear hx141_0
          try clear p139
          try clear p140
          try clear p141
          try clear p2
          try clear q139
          try clear q140
          try clear q141
          obtain ⟨kq,x52_12,rfl,HA,HJ12,BK138,HB⟩:=hcut
          cases kq with
          | zero=>exact absurd HA.out (by simp [impl_ChancesOk.j2])
          | succ kj12 =>
           have H:=HA.out
           clear HA
           simp only [impl_ChancesOk.j2] at H
           by_cases c20:x52_12 = true
           ·subst c20
            have H1:(some false) = some r:=by rw [if_pos rfl] at H;exact H
            clear H
            have H:=H1
            clear H1
            obtain rfl:=Option.some.inj H
            go_wp2
            go_ret
            exact ⟨rfl,by exact HB.out⟩
           ·replace c20:=Bool.eq_false_iff.mpr c20
            subst c20
            have H1:(impl_ChancesOk.l1 kj12 (l0_0.length:Int) 0 l0_1 (l0_1.length:Int) x28_2 (rd_L1 l0_1 x28_2) ((rd_L1 l0_1 x28_2).length:Int) 0 l0_0 l0_1) = some r:=by rw [if_neg (show ¬ (false = true) by decide)] at H;exact H
            clear H
            have H:=H1
            clear H1
            have H':=Aside0.mk H
            clear H
            go_wp2
            go_loopg [6,55] kj12 (fun kq v6 v55 w'=>∃ (x6_4:Int) (x55_4:Int),v6 = .int .i64 x6_4∧v55 = .int .i64 x55_4∧Aside0 (impl_ChancesOk.l1 kq (l0_0.length:Int) x6_4 l0_1 (l0_1.length:Int) x28_2 (rd_L1 l0_1 x28_2) ((rd_L1 l0_1 x28_2).length:Int) x55_4 l0_0 l0_1 = some r)∧Aside0 (kq ≤ kj12)∧Aside0 (w'.heap[gb138]? = some (.cells #[(.slice A0_0 l0_0.length c0_0),(.slice (some ad139) l0_1.length c0_1)] 28 (0,0)))∧Aside0 (Below w.heap.size w w'))
            case atStart=>exact ⟨(0),(0),(by first | rfl | (simp;done) | (simp [*];done)),(by first | rfl | (simp;done) | (simp [*];done)),H',⟨Nat.le_refl _⟩,⟨by exact BK138.out⟩,⟨by exact HB.out⟩⟩
            case round =>
             clear H'
             try clear c1
             try clear p1
             try clear q1
             try clear hx1
             try clear c2
             try clear p2
             try clear c5
             try clear c5b0
             try clear c5b1
             try clear c6
             try clear c6b0
             try clear c6b1
             try clear c8
             try clear c10
             try clear c10b0
             try clear c11
             try clear c11b0
             try clear c12
             try clear c12b0
             try clear c13
             try clear p13
             try clear q13
             try clear hx13
             try clear c14
             try clear c14b0
             try clear p14
             try clear q14
             try clear hx14
             try clear c15
             try clear c15b0
             try clear c16
             try clear c17
             try clear c17b0
             try clear c20
             try clear hcz16_0
             try clear hcz16_1
             try clear hcz18_0
             try clear hcz18_1
             try clear hcz19_0
             try clear hcz19_1
             try clear hcz4_0
             try clear hcz4_1
             try clear hcz7_0
             try clear hcz7_1
             try clear hcz9_0
             try clear hcz9_1
             try clear hfz16_0
             try clear hfz16_1
             try clear hfz18_0
             try clear hfz18_1
             try clear hfz19_0
             try clear hfz19_1
             try clear hfz4_0
             try clear hfz4_1
             try clear hfz7_0
             try clear hfz7_1
             try clear hfz9_0
             try clear hfz9_1
             try clear hx139_0
             try clear hx140_0
             try clear hx141_0
             try clear p1
             try clear p13
             try clear p139
             try clear p14
             try clear p140
             try clear p141
             try clear p2
             try clear q1
             try clear q13
             try clear q139
             try clear q14
             try clear q140
             try clear q141
             obtain ⟨x6_4,x55_4,rfl,rfl,HA,HK4,BK138,HB⟩:=hrel
             cases gk with
             | zero=>exact absurd HA.out (by simp [impl_ChancesOk.l1])
             | succ k4 =>
              have H:=HA.out
              clear HA
              simp only [impl_ChancesOk.l1] at H
              by_cases c21:x55_4 < ((rd_L1 l0_1 x28_2).length:Int)
              ·rw [if_pos c21] at H
               have c21b0:decide (x55_4 < ((rd_L1 l0_1 x28_2).length:Int)) = true:=decide_eq_true c21
               clear c21
               by_cases c22:0 ≤ x55_4
               ·rw [if_pos c22] at H
                have c22b0:decide (0 ≤ x55_4) = true:=decide_eq_true c22
                clear c22
                by_cases c23:x55_4 < ((rd_L1 l0_1 x28_2).length:Int)
                ·rw [if_pos c23] at H
                 have c23b0:decide (x55_4 < ((rd_L1 l0_1 x28_2).length:Int)) = true:=decide_eq_true c23
                 clear c23
                 by_cases c24:(rd (rd_L1 l0_1 x28_2) x55_4) < 0
                 ·rw [if_pos c24] at H
                  have c24b0:decide ((rd (rd_L1 l0_1 x28_2) x55_4) < 0) = true:=decide_eq_true c24
                  clear c24
                  obtain rfl:=Option.some.inj H
                  have p142:0 ≤ (x55_4:Int):=of_decide_eq_true (by assumption)
                  have q142:x55_4 < ((rd_L1 l0_1 x28_2).length:Int):=of_decide_eq_true (by assumption)
                  obtain ⟨ad142,e142,hx142_0⟩:=Kd.at_int HR139_0.out x55_4 p142 q142
                  cases e142
                  replace hx142_0:=(HB.out.cell (World.block_lt_of_cell? w _ hx142_0)).trans hx142_0
                  replace p142:=eq_true p142
                  replace q142:=eq_true q142
                  go_wp2
                  go_ret
                  exact ⟨rfl,by exact HB.out⟩
                 ·rw [if_neg c24] at H
                  have c24b0:decide ((rd (rd_L1 l0_1 x28_2) x55_4) < 0) = false:=decide_eq_false c24
                  clear c24
                  by_cases c25:(rd (rd_L1 l0_1 x28_2) x55_4) > 6
                  ·rw [if_pos c25] at H
                   have c25b0:decide (6 < (rd (rd_L1 l0_1 x28_2) x55_4)) = true:=decide_eq_true c25
                   clear c25
                   obtain rfl:=Option.some.inj H
                   have p142:0 ≤ (x55_4:Int):=of_decide_eq_true (by assumption)
                   have q142:x55_4 < ((rd_L1 l0_1 x28_2).length:Int):=of_decide_eq_true (by assumption)
                   obtain ⟨ad142,e142,hx142_0⟩:=Kd.at_int HR139_0.out x55_4 p142 q142
                   cases e142
                   replace hx142_0:=(HB.out.cell (World.block_lt_of_cell? w _ hx142_0)).trans hx142_0
                   replace p142:=eq_true p142
                   replace q142:=eq_true q142
                   go_wp2
                   go_ret
                   exact ⟨rfl,by exact HB.out⟩
                  ·rw [if_neg c25] at H
                   have c25b0:decide (6 < (rd (rd_L1 l0_1 x28_2) x55_4)) = false:=decide_eq_false c25
                   clear c25
                   have H':=Aside0.mk H
                   clear H
                   have p142:0 ≤ (x55_4:Int):=of_decide_eq_true (by assumption)
                   have q142:x55_4 < ((rd_L1 l0_1 x28_2).length:Int):=of_decide_eq_true (by assumption)
                   obtain ⟨ad142,e142,hx142_0⟩:=Kd.at_int HR139_0.out x55_4 p142 q142
                   cases e142
                   replace hx142_0:=(HB.out.cell (World.block_lt_of_cell? w _ hx142_0)).trans hx142_0
                   replace p142:=eq_true p142
                   replace q142:=eq_true q142
                   go_wp2
                   go_roundg k4
                   case measure=>have:=HJ1.out;have:=HK2.out;have:=HJ12.out;have:=HK4.out;omega
                   case rel=>exact ⟨(wrap64 (x6_4 + (rd (rd_L1 l0_1 x28_2) x55_4))),(wrap64 (x55_4 + 1)),(by first | rfl | (simp;done) | (simp [*];done)),(by first | rfl | (simp;done) | (simp [*];done)),H',⟨by have:=HJ1.out;have:=HK2.out;have:=HJ12.out;have:=HK4.out;omega⟩,⟨by exact BK138.out⟩,⟨by exact HB.out⟩⟩
                ·rw [if_neg c23] at H
                 exact absurd H (by simp)
               ·rw [if_neg c22] at H
                exact absurd H (by simp)
              ·rw [if_neg c21] at H
               have c21b0:decide (x55_4 < ((rd_L1 l0_1 x28_2).length:Int)) = false:=decide_eq_false c21
               clear c21
               by_cases c26:x6_4 = 6
               ·rw [if_pos c26] at H
                have c26b0:(x6_4 == 6) = true:=beq_iff_eq.mpr c26
                have c26b1:(x6_4 != 6) = false:=bne_eq_false_iff_eq.mpr c26
                clear c26
                have H':=Aside0.mk H
                clear H
                go_wp2
                go_roundg k4
                case measure=>have:=HJ1.out;have:=HK2.out;have:=HJ12.out;have:=HK4.out;omega
                case rel=>exact ⟨(wrap64 (x28_2 + 1)),(by first | rfl | (simp;done) | (simp [*];done)),H',⟨by have:=HJ1.out;have:=HK2.out;have:=HJ12.out;have:=HK4.out;omega⟩,⟨by exact BK138.out⟩,⟨by exact HB.out⟩⟩
               ·rw [if_neg c26] at H
                have c26b0:(x6_4 == 6) = false:=beq_eq_false_iff_ne.mpr c26
                have c26b1:(x6_4 != 6) = true:=bne_iff_ne.mpr c26
                obtain rfl:=Option.some.inj H
                go_wp2
                go_ret
                exact ⟨rfl,by exact HB.out⟩
        ·rw [if_neg c12] at H
         exact absurd H (by simp)
       ·rw [if_neg c11] at H
        exact absurd H (by simp)
      ·rw [if_neg c10] at H
       have c10b0:decide (x28_2 < (l0_1.length:Int)) = false:=decide_eq_false c10
       clear c10
       obtain rfl:=Option.some.inj H
       go_wp2
       go_ret
       exact ⟨rfl,by exact HB.out⟩
def slices_Equal_int_int.l0:Nat → List Int → List Int → Int → Int → Option (Bool)
 | 0,_,_,_,_=>none
 | k + 1,x0,x1,x12,x13=>if x13 < x12 then (if 0 ≤ x13 then (if x13 < (x0.length:Int) then (if x13 < (x1.length:Int) then (if (rd x0 x13) = (rd x1 x13) then (slices_Equal_int_int.l0 k x0 x1 x12 (wrap64 (x13 + 1))) else (some false)) else (none)) else (none)) else (none)) else (some true)
def slices_Equal_int_int.f (k:Nat) (l0:List Int) (l1:List Int):Option (Bool):=if (l0.length:Int) = (l1.length:Int) then (slices_Equal_int_int.l0 k l0 l1 (l0.length:Int) 0) else (some false)
theorem slices_Equal_int_int.mono_l:∀ k,(∀ y0 y1 y2 y3,LeO (slices_Equal_int_int.l0 k y0 y1 y2 y3) (slices_Equal_int_int.l0 (k + 1) y0 y1 y2 y3))
 | 0=>fun _ _ _ _ r h=>by simp [slices_Equal_int_int.l0] at h
 | k + 1=>by
  have ih0:=slices_Equal_int_int.mono_l k
  ·intro y0 y1 y2 y3
   unfold slices_Equal_int_int.l0
   repeat' first
   | (with_reducible exact ih0 _ _ _ _)
   | (with_reducible exact LeO.refl _)
   | (with_reducible exact LeO.none _)
   | (with_reducible refine LeO.ite ?_ ?_)
   | (with_reducible refine LeO.bind ?_ (fun _=>?_))
   | exact ih0 _ _ _ _
   | exact LeO.none _
   | refine LeO.ite ?_ ?_
   | refine LeO.bind ?_ (fun _=>?_)
theorem slices_Equal_int_int.mono:∀ a0 a1 k,LeO (slices_Equal_int_int.f k a0 a1) (slices_Equal_int_int.f (k + 1) a0 a1):=by
 intro a0 a1 k
 have ih0:=slices_Equal_int_int.mono_l k
 unfold slices_Equal_int_int.f
 repeat' first
   | (with_reducible exact ih0 _ _ _ _)
   | (with_reducible exact LeO.refl _)
   | (with_reducible exact LeO.none _)
   | (with_reducible refine LeO.ite ?_ ?_)
   | (with_reducible refine LeO.bind ?_ (fun _=>?_))
   | exact ih0 _ _ _ _
   | exact LeO.none _
   | refine LeO.ite ?_ ?_
   | refine LeO.bind ?_ (fun _=>?_)
set_option maxHeartbeats 8000000 in
set_option maxRecDepth 100000 in
theorem slices_Equal_int_int.calls (k:Nat) (A0:Option Addr) (c0:Nat) (l0:List Int) (A1:Option Addr) (c1:Nat) (l1:List Int) (r:Bool) (w:World) (hr0:Kd.C (Kd.int .i64) w A0 l0.length l0) (hc0:l0.length ≤ c0) (hr1:Kd.C (Kd.int .i64) w A1 l1.length l1) (hc1:l1.length ≤ c1) (h:slices_Equal_int_int.f k l0 l1 = some r) :
  Calls Try.prog 63 #[.slice A0 l0.length c0,.slice A1 l1.length c1] w fun e w'=>e = .returned (.bool r)∧Drawn0 w w':=by
 have HR0:=Aside0.mk hr0
 have HC0:=Aside0.mk hc0
 clear hr0 hc0
 have HR1:=Aside0.mk hr1
 have HC1:=Aside0.mk hc1
 clear hr1 hc1
 have H:(if (l0.length:Int) = (l1.length:Int) then (slices_Equal_int_int.l0 k l0 l1 (l0.length:Int) 0) else (some false)) = some r:=h
 clear h
 by_cases c3:(l0.length:Int) = (l1.length:Int)
 ·rw [if_pos c3] at H
  have c3b0:((l0.length:Int) == (l1.length:Int)) = true:=beq_iff_eq.mpr c3
  have c3b1:((l0.length:Int) != (l1.length:Int)) = false:=bne_eq_false_iff_eq.mpr c3
  have c3b2:(l0.length == l1.length) = true:=by first | simpa using c3 | (simp at c3 ⊢;omega)
  clear c3
  have H':=Aside0.mk H
  clear H
  go_enter Try.func63,Try.ntmps63
  go_wp2
  repeat (go_quiet (fail);try go_wp2)
  go_loopg [13] k (fun kq v13 w'=>∃ (x13_1:Int),v13 = .int .i64 x13_1∧Aside0 (slices_Equal_int_int.l0 kq l0 l1 (l0.length:Int) x13_1 = some r)∧Aside0 (kq ≤ k)∧Drawn0 w w')
  case atStart=>exact ⟨(0),(by first | rfl | (simp;done) | (simp [*];done)),H',⟨Nat.le_refl _⟩,by repeat (first | exact Drawn0.refl _ | apply Drawn0.step)⟩
  case round =>
   clear H'
   try clear c1
   try clear p2
   try clear c3
   try clear c3b0
   try clear c3b1
   try clear c3b2
   obtain ⟨x13_1,rfl,HA,HK1,⟨m1,rfl⟩⟩:=hrel
   cases gk with
   | zero=>exact absurd HA.out (by simp [slices_Equal_int_int.l0])
   | succ k1 =>
    have H:=HA.out
    clear HA
    simp only [slices_Equal_int_int.l0] at H
    by_cases c4:x13_1 < (l0.length:Int)
    ·rw [if_pos c4] at H
     have c4b0:decide (x13_1 < (l0.length:Int)) = true:=decide_eq_true c4
     clear c4
     by_cases c5:0 ≤ x13_1
     ·rw [if_pos c5] at H
      have c5b0:decide (0 ≤ x13_1) = true:=decide_eq_true c5
      clear c5
      by_cases c6:x13_1 < (l0.length:Int)
      ·rw [if_pos c6] at H
       have c6b0:decide (x13_1 < (l0.length:Int)) = true:=decide_eq_true c6
       clear c6
       by_cases c7:x13_1 < (l1.length:Int)
       ·rw [if_pos c7] at H
        have c7b0:decide (x13_1 < (l1.length:Int)) = true:=decide_eq_true c7
        clear c7
        by_cases c8:(rd l0 x13_1) = (rd l1 x13_1)
        ·rw [if_pos c8] at H
         have c8b0:((rd l0 x13_1) == (rd l1 x13_1)) = true:=beq_iff_eq.mpr c8
         have c8b1:((rd l0 x13_1) != (rd l1 x13_1)) = false:=bne_eq_false_iff_eq.mpr c8
         clear c8
         have H':=Aside0.mk H
         clear H
         have p194:0 ≤ (x13_1:Int):=of_decide_eq_true (by assumption)
         have q194:x13_1 < (l0.length:Int):=of_decide_eq_true (by assumption)
         obtain ⟨ad194,e194,hx194_0⟩:=Kd.at_int HR0.out x13_1 p194 q194
         cases e194
         replace p194:=eq_true p194
         replace q194:=eq_true q194
         have p195:0 ≤ (x13_1:Int):=of_decide_eq_true (by assumption)
         have q195:x13_1 < (l1.length:Int):=of_decide_eq_true (by assumption)
         obtain ⟨ad195,e195,hx195_0⟩:=Kd.at_int HR1.out x13_1 p195 q195
         cases e195
         replace p195:=eq_true p195
         replace q195:=eq_true q195
         go_wp2
         repeat (go_quiet (fail);try go_wp2)
         go_roundg k1
         case measure=>have:=HK1.out;omega
         case rel=>exact ⟨(wrap64 (x13_1 + 1)),(by first | rfl | (simp;done) | (simp [*];done)),H',⟨by have:=HK1.out;omega⟩,by repeat (first | exact Drawn0.refl _ | apply Drawn0.step)⟩
        ·rw [if_neg c8] at H
         have c8b0:((rd l0 x13_1) == (rd l1 x13_1)) = false:=beq_eq_false_iff_ne.mpr c8
         have c8b1:((rd l0 x13_1) != (rd l1 x13_1)) = true:=bne_iff_ne.mpr c8
         obtain rfl:=Option.some.inj H
         have p194:0 ≤ (x13_1:Int):=of_decide_eq_true (by assumption)
         have q194:x13_1 < (l0.length:Int):=of_decide_eq_true (by assumption)
         obtain ⟨ad194,e194,hx194_0⟩:=Kd.at_int HR0.out x13_1 p194 q194
         cases e194
         replace p194:=eq_true p194
         replace q194:=eq_true q194
         have p195:0 ≤ (x13_1:Int):=of_decide_eq_true (by assumption)
         have q195:x13_1 < (l1.length:Int):=of_decide_eq_true (by assumption)
         obtain ⟨ad195,e195,hx195_0⟩:=Kd.at_int HR1.out x13_1 p195 q195
         cases e195
         replace p195:=eq_true p195
         replace q195:=eq_true q195
         go_wp2
         repeat (go_quiet (fail);try go_wp2)
         go_ret
         exact ⟨by first | rfl | (simp;done) | (simp [*];done),by repeat (first | exact Drawn0.refl _ | apply Drawn0.step)⟩
       ·rw [if_neg c7] at H
        exact absurd H (by simp)
      ·rw [if_neg c6] at H
       exact absurd H (by simp)
     ·rw [if_neg c5] at H
      exact absurd H (by simp)
    ·rw [if_neg c4] at H
     have c4b0:decide (x13_1 < (l0.length:Int)) = false:=decide_eq_false c4
     clear c4
     obtain rfl:=Option.some.inj H
     go_wp2
     repeat (go_quiet (fail);try go_wp2)
     go_ret
     exact ⟨by first | rfl | (simp;done) | (simp [*];done),by repeat (first | exact Drawn0.refl _ | apply Drawn0.step)⟩
 ·rw [if_neg c3] at H
  have c3b0:((l0.length:Int) == (l1.length:Int)) = false:=beq_eq_false_iff_ne.mpr c3
  have c3b1:((l0.length:Int) != (l1.length:Int)) = true:=bne_iff_ne.mpr c3
  have c3b2:(l0.length == l1.length) = false:=by first | simpa using c3 | (simp at c3 ⊢;omega)
  obtain rfl:=Option.some.inj H
  go_enter Try.func63,Try.ntmps63
  go_wp2
  repeat (go_quiet (fail);try go_wp2)
  go_ret
  exact ⟨by first | rfl | (simp;done) | (simp [*];done),by repeat (first | exact Drawn0.refl _ | apply Drawn0.step)⟩
def spec_l6Open.f (l0:List Int):Option (List Int × Int):=if (l0.length:Int) > 2000 then (if 2000 ≤ (l0.length:Int) then (some (l0.take 2000,0)) else (none)) else (some (l0,0))
set_option maxHeartbeats 8000000 in
set_option maxRecDepth 100000 in
theorem spec_l6Open.calls (A0:Option Addr) (c0:Nat) (l0:List Int) (r1:List Int) (r2:Int) (w0 w:World) (hB:Below w0.heap.size w0 w) (hr0:Kd.C (Kd.int .u8) w0 A0 l0.length l0) (hc0:l0.length ≤ c0) (h:spec_l6Open.f l0 = some (r1,r2)) :
  Calls Try.prog 44 #[.slice A0 l0.length c0] w fun e w'=>∃ g_:Nat,e = .returned (.pointer (some ⟨g_,0,none⟩))∧IsS67 w0 w' g_ r1 r2∧Below w0.heap.size w0 w'∧Below w.heap.size w w':=by
 have hu67:=Try.underlying67
 have HR0:=Aside0.mk hr0
 have HC0:=Aside0.mk hc0
 clear hr0 hc0
 have HBW:=Aside0.mk (Below.refl w.heap.size w)
 have HW0:=Aside0.mk hB.size
 have HB:=Aside0.mk hB
 clear hB
 have H:(if (l0.length:Int) > 2000 then (if 2000 ≤ (l0.length:Int) then (some (l0.take 2000,0)) else (none)) else (some (l0,0))) = some (r1,r2):=h
 clear h
 by_cases c2:(l0.length:Int) > 2000
 ·rw [if_pos c2] at H
  have c2b0:decide (2000 < (l0.length:Int)) = true:=decide_eq_true c2
  have c2b1:decide (2000 < l0.length) = true:=decide_eq_true (by omega)
  clear c2
  by_cases c3:2000 ≤ (l0.length:Int)
  ·rw [if_pos c3] at H
   have c3b0:=eq_true c3
   have c3b1:decide (2000 ≤ (l0.length:Int)) = true:=decide_eq_true c3
   clear c3
   simp only [Option.some.injEq,Prod.mk.injEq] at H
   obtain ⟨rfl,rfl⟩:=H
   obtain ⟨i04,hi04,_,hsz4,_⟩:=info_parts info5
   obtain ⟨hcut4,hA4,hC4⟩:=print_take_of (P:=Try.prog) (Value.int .u8) 0 32 5 .i64 Try.underlying32 hi04 hsz4 A0 c0 l0 2000 (by omega) (of_decide_eq_true (by assumption)) HC0.out
   have HR176:=Aside0.mk (Kd.C_of_reads (h1:=fun _=>rfl) (hA4 _ (Kd.reads_of_C HR0.out)))
   have HC176:=Aside0.mk hC4
   clear hA4 hC4 hi04 hsz4
   go_enter Try.func44,Try.ntmps44
   go_wp2_with (first | ((with_reducible refine gate_dst (N:=10) rfl ?_);refine box_event ?hg (N:=10) ?hd (cs:=#[.slice A0 (l0.take 2000).length c0,.int .i64 0]) (t:=67) ?hr ?_;(case hd=>rfl);(case hg=>rfl);(case hr=>first | (go_simp;done) | (go_simp;rfl));intro gb177 hg w5 hbox hb;have n0_:=Aside0.mk (below_step HBW.out hb);have n1_:=Aside0.mk (below_step (by exact HB.out) hb);have n2_:=Aside0.mk (hbox);have n3_:=Aside0.mk ((by rw [hg];exact (below_size (by exact HBW.out)):w.heap.size ≤ gb177));have n4_:=Aside0.mk ((Nat.le_trans HW0.out (by rw [hg];exact (below_size (by exact HBW.out)):w.heap.size ≤ gb177):w0.heap.size ≤ gb177));clear HBW;clear HB;have HBW:=n0_;have HB:=n1_;have BK177:=n2_;have GW177:=n3_;have GE177:=n4_;clear n0_ n1_ n2_ n3_ n4_;clear hb hbox hg))
   go_ret
   exact ⟨_,rfl,(show IsS67 w0 _ gb177 (l0.take 2000) 0 from ⟨_,_,by exact BK177.out,GE177.out,HR176.out⟩),by exact HB.out,by exact HBW.out⟩
  ·rw [if_neg c3] at H
   exact absurd H (by simp)
 ·rw [if_neg c2] at H
  have c2b0:decide (2000 < (l0.length:Int)) = false:=decide_eq_false c2
  have c2b1:decide (2000 < l0.length) = false:=decide_eq_false (by omega)
  clear c2
  simp only [Option.some.injEq,Prod.mk.injEq] at H
  obtain ⟨rfl,rfl⟩:=H
  go_enter Try.func44,Try.ntmps44
  go_wp2_with (first | ((with_reducible refine gate_dst (N:=10) rfl ?_);refine box_event ?hg (N:=10) ?hd (cs:=#[.slice A0 l0.length c0,.int .i64 0]) (t:=67) ?hr ?_;(case hd=>rfl);(case hg=>rfl);(case hr=>first | (go_simp;done) | (go_simp;rfl));intro gb178 hg w6 hbox hb;have n0_:=Aside0.mk (below_step HBW.out hb);have n1_:=Aside0.mk (below_step (by exact HB.out) hb);have n2_:=Aside0.mk (hbox);have n3_:=Aside0.mk ((by rw [hg];exact (below_size (by exact HBW.out)):w.heap.size ≤ gb178));have n4_:=Aside0.mk ((Nat.le_trans HW0.out (by rw [hg];exact (below_size (by exact HBW.out)):w.heap.size ≤ gb178):w0.heap.size ≤ gb178));clear HBW;clear HB;have HBW:=n0_;have HB:=n1_;have BK178:=n2_;have GW178:=n3_;have GE178:=n4_;clear n0_ n1_ n2_ n3_ n4_;clear hb hbox hg))
  go_ret
  exact ⟨_,rfl,(show IsS67 w0 _ gb178 l0 0 from ⟨_,_,by exact BK178.out,GE178.out,HR0.out⟩),by exact HB.out,by exact HBW.out⟩
def spec_l6Rd_pick.j0:Nat → Int → Bool → List Int → Int → Option (Int × Int)
 | 0,_,_,_,_=>none
 | k + 1,x1,x24,x1000,x1001=>if x24 = true then (some (0,x1001)) else (if (wrap64 (x1001 - 1)) < (x1000.length:Int) then (if 0 ≤ (wrap64 (x1001 - 1)) then (if x1 = 0 then (none) else (some (Int.tmod (wrap64 (rd x1000 (wrap64 (x1001 - 1)))) x1,x1001))) else (none)) else (if (x1000.length:Int) = 0 then (none) else (if 0 ≤ (Int.tmod (wrap64 (x1001 - 1)) (x1000.length:Int)) then (if (Int.tmod (wrap64 (x1001 - 1)) (x1000.length:Int)) < (x1000.length:Int) then (if 0 ≤ (Int.tmod (wrap64 ((wrap64 ((wrap64 (x1001 - 1)) * 7)) + 3)) (x1000.length:Int)) then (if (Int.tmod (wrap64 ((wrap64 ((wrap64 (x1001 - 1)) * 7)) + 3)) (x1000.length:Int)) < (x1000.length:Int) then (if x1 = 0 then (none) else (some (Int.tmod (Go.bits .xor .i64 (wrap64 ((wrap64 ((wrap64 ((wrap64 ((wrap64 (rd x1000 (Int.tmod (wrap64 (x1001 - 1)) (x1000.length:Int)))) * 131)) + (wrap64 ((wrap64 (rd x1000 (Int.tmod (wrap64 ((wrap64 ((wrap64 (x1001 - 1)) * 7)) + 3)) (x1000.length:Int)))) * 1117)))) + (wrap64 ((wrap64 (x1001 - 1)) * 29)))) + (wrap64 ((wrap64 (Int.tdiv (wrap64 (x1001 - 1)) (x1000.length:Int))) * 53)))) (wrap64 (Int.tdiv (wrap64 ((wrap64 ((wrap64 ((wrap64 ((wrap64 (rd x1000 (Int.tmod (wrap64 (x1001 - 1)) (x1000.length:Int)))) * 131)) + (wrap64 ((wrap64 (rd x1000 (Int.tmod (wrap64 ((wrap64 ((wrap64 (x1001 - 1)) * 7)) + 3)) (x1000.length:Int)))) * 1117)))) + (wrap64 ((wrap64 (x1001 - 1)) * 29)))) + (wrap64 ((wrap64 (Int.tdiv (wrap64 (x1001 - 1)) (x1000.length:Int))) * 53)))) 64))) x1,x1001))) else (none)) else (none)) else (none)) else (none))))
def spec_l6Rd_pick.f (k:Nat) (s0_0:List Int) (s0_1:Int) (a1:Int):Option (Int × Int):=if a1 < 1 then (spec_l6Rd_pick.j0 k a1 true s0_0 (wrap64 (s0_1 + 1))) else (spec_l6Rd_pick.j0 k a1 ((s0_0.length:Int) == 0) s0_0 (wrap64 (s0_1 + 1)))
theorem spec_l6Rd_pick.mono_l:∀ k,(∀ y0 y1 y2 y3,LeO (spec_l6Rd_pick.j0 k y0 y1 y2 y3) (spec_l6Rd_pick.j0 (k + 1) y0 y1 y2 y3))
 | 0=>fun _ _ _ _ r h=>by simp [spec_l6Rd_pick.j0] at h
 | k + 1=>by
  have ih0:=spec_l6Rd_pick.mono_l k
  ·intro y0 y1 y2 y3
   unfold spec_l6Rd_pick.j0
   repeat' first
   | (with_reducible exact ih0 _ _ _ _)
   | (with_reducible exact LeO.refl _)
   | (with_reducible exact LeO.none _)
   | (with_reducible refine LeO.ite ?_ ?_)
   | (with_reducible refine LeO.bind ?_ (fun _=>?_))
   | exact ih0 _ _ _ _
   | exact LeO.none _
   | refine LeO.ite ?_ ?_
   | refine LeO.bind ?_ (fun _=>?_)
theorem spec_l6Rd_pick.mono:∀ a0 a1 a2 k,LeO (spec_l6Rd_pick.f k a0 a1 a2) (spec_l6Rd_pick.f (k + 1) a0 a1 a2):=by
 intro a0 a1 a2 k
 have ih0:=spec_l6Rd_pick.mono_l k
 unfold spec_l6Rd_pick.f
 repeat' first
   | (with_reducible exact ih0 _ _ _ _)
   | (with_reducible exact LeO.refl _)
   | (with_reducible exact LeO.none _)
   | (with_reducible refine LeO.ite ?_ ?_)
   | (with_reducible refine LeO.bind ?_ (fun _=>?_))
   | exact ih0 _ _ _ _
   | exact LeO.none _
   | refine LeO.ite ?_ ?_
   | refine LeO.bind ?_ (fun _=>?_)
set_option maxHeartbeats 8000000 in
set_option maxRecDepth 100000 in
theorem spec_l6Rd_pick.calls (k:Nat) (g:Nat) (s0_0:List Int) (s0_1:Int) (a1:Int) (r1:Int) (r2:Int) (w0 w:World) (hI:IsS67 w0 w g s0_0 s0_1) (hB:Below w0.heap.size w0 w) (h:spec_l6Rd_pick.f k s0_0 s0_1 a1 = some (r1,r2)) :
  Calls Try.prog 48 #[.pointer (some ⟨g,0,none⟩),.int .i64 a1] w fun e w'=>e = .returned (.int .i64 r1)∧IsS67 w0 w' g s0_0 r2∧Below w0.heap.size w0 w'∧KeepBut w w' g none:=by
 have HI0:=Aside0.mk hI
 have HK:=Aside0.mk (KeepBut.refl w g none)
 have HL:=Aside0.mk hB.size
 clear hI
 have HW0:=Aside0.mk hB.size
 have HB:=Aside0.mk hB
 clear hB
 have H:(if a1 < 1 then (spec_l6Rd_pick.j0 k a1 true s0_0 (wrap64 (s0_1 + 1))) else (spec_l6Rd_pick.j0 k a1 ((s0_0.length:Int) == 0) s0_0 (wrap64 (s0_1 + 1)))) = some (r1,r2):=h
 clear h
 have HC3:=Aside0.mk H
 clear H
 obtain ⟨ASz4_0,cSz4_0,HGz4,hgz4,HSz4_0⟩:=HI0.out
 have hcz4_0:=cellS67_0 HGz4
 have hcz4_1:=cellS67_1 HGz4
 have hfz4_1:=blk_frozen HGz4 1
 clear HGz4 hgz4
 go_enter Try.func48,Try.ntmps48
 go_upto_region 2 with (fail)
 repeat (go_quiet (fail);go_upto_region 2 with (fail))
 go_cut [24] (fun v24 wc=>∃ (kq:Nat) (x24_2:Bool),v24 = .bool x24_2∧Aside0 (spec_l6Rd_pick.j0 kq a1 x24_2 s0_0 (wrap64 (s0_1 + 1)) = some (r1,r2))∧Aside0 (kq ≤ k)∧Aside0 (IsS67 w0 wc g s0_0 (wrap64 (s0_1 + 1)))∧Aside0 (KeepBut w wc g none)∧Aside0 (Below w0.heap.size w0 wc))
 case first =>
  have H:=HC3.out
  clear HC3
  by_cases c5:a1 < 1
  ·rw [if_pos c5] at H
   have c5b0:decide (a1 < 1) = true:=decide_eq_true c5
   clear c5
   (first | rw [c5b0] | (simp only [i64_w,i32_w];rw [c5b0]) | skip)
   have H':=Aside0.mk H
   clear H
   go_wp2
   repeat (go_quiet (fail);try go_wp2)
   go_meet
   case rel=>exact ⟨_,(true),(by first | rfl | (simp;done) | (simp [*];done)),H',⟨by first | omega | exact Nat.le_refl _⟩,⟨by repeat (with_reducible first | exact HI0.out | apply IsS67.alloc | apply IsS67.drewN | apply IsS67.drew | apply IsS67.set_1)⟩,⟨by repeat (with_reducible first | exact HK.out | apply KeepBut.set_ | apply keep_drewN | apply keep_drew | apply keep_alloc)⟩,⟨by repeat (with_reducible first | exact HB.out | apply below_alloc | apply pw_below_drewN | apply below_drew1 | refine below_set ?_ (IsS67.ge HI0.out))⟩⟩
  ·rw [if_neg c5] at H
   have c5b0:decide (a1 < 1) = false:=decide_eq_false c5
   clear c5
   (first | rw [c5b0] | (simp only [i64_w,i32_w];rw [c5b0]) | skip)
   have H':=Aside0.mk H
   clear H
   obtain ⟨ASz6_0,cSz6_0,HGz6,hgz6,HSz6_0⟩:=HI0.out
   have hcz6_0:=cellS67_0 HGz6
   have hcz6_1:=cellS67_1 HGz6
   have hfz6_1:=blk_frozen HGz6 1
   clear HGz6 hgz6
   go_wp2
   repeat (go_quiet (fail);try go_wp2)
   go_meet
   case rel=>exact ⟨_,(((s0_0.length:Int) == 0)),(by first | rfl | (simp;done) | (simp [*];done)),H',⟨by first | omega | exact Nat.le_refl _⟩,⟨by repeat (with_reducible first | exact HI0.out | apply IsS67.alloc | apply IsS67.drewN | apply IsS67.drew | apply IsS67.set_1)⟩,⟨by repeat (with_reducible first | exact HK.out | apply KeepBut.set_ | apply keep_drewN | apply keep_drew | apply keep_alloc)⟩,⟨by repeat (with_reducible first | exact HB.out | apply below_alloc | apply pw_below_drewN | apply below_drew1 | refine below_set ?_ (IsS67.ge HI0.out))⟩⟩
 case rest =>
  clear HC3
  try clear p2
  try clear c4
  try clear c5
  try clear c5b0
  try clear p6
  try clear hcz4_0
  try clear hcz4_1
  try clear hcz6_0
  try clear hcz6_1
  try clear hfz4_1
  try clear hfz6_1
  obtain ⟨kq,x24_2,rfl,HA,HJ2,HI0,HK,HB⟩:=hcut
  cases kq with
  | zero=>exact absurd HA.out (by simp [spec_l6Rd_pick.j0])
  | succ kj2 =>
   have H:=HA.out
   clear HA
   simp only [spec_l6Rd_pick.j0] at H
   by_cases c7:x24_2 = true
   ·subst c7
    have H1:(some (0,(wrap64 (s0_1 + 1)))) = some (r1,r2):=by rw [if_pos rfl] at H;exact H
    clear H
    have H:=H1
    clear H1
    simp only [Option.some.injEq,Prod.mk.injEq] at H
    obtain ⟨rfl,rfl⟩:=H
    go_wp2
    repeat (go_quiet (fail);try go_wp2)
    go_ret
    exact ⟨rfl,by exact HI0.out,by exact HB.out,by exact HK.out⟩
   ·replace c7:=Bool.eq_false_iff.mpr c7
    subst c7
    have H1:(if (wrap64 ((wrap64 (s0_1 + 1)) - 1)) < (s0_0.length:Int) then (if 0 ≤ (wrap64 ((wrap64 (s0_1 + 1)) - 1)) then (if a1 = 0 then (none) else (some (Int.tmod (wrap64 (rd s0_0 (wrap64 ((wrap64 (s0_1 + 1)) - 1)))) a1,(wrap64 (s0_1 + 1))))) else (none)) else (if (s0_0.length:Int) = 0 then (none) else (if 0 ≤ (Int.tmod (wrap64 ((wrap64 (s0_1 + 1)) - 1)) (s0_0.length:Int)) then (if (Int.tmod (wrap64 ((wrap64 (s0_1 + 1)) - 1)) (s0_0.length:Int)) < (s0_0.length:Int) then (if 0 ≤ (Int.tmod (wrap64 ((wrap64 ((wrap64 ((wrap64 (s0_1 + 1)) - 1)) * 7)) + 3)) (s0_0.length:Int)) then (if (Int.tmod (wrap64 ((wrap64 ((wrap64 ((wrap64 (s0_1 + 1)) - 1)) * 7)) + 3)) (s0_0.length:Int)) < (s0_0.length:Int) then (if a1 = 0 then (none) else (some (Int.tmod (Go.bits .xor .i64 (wrap64 ((wrap64 ((wrap64 ((wrap64 ((wrap64 (rd s0_0 (Int.tmod (wrap64 ((wrap64 (s0_1 + 1)) - 1)) (s0_0.length:Int)))) * 131)) + (wrap64 ((wrap64 (rd s0_0 (Int.tmod (wrap64 ((wrap64 ((wrap64 ((wrap64 (s0_1 + 1)) - 1)) * 7)) + 3)) (s0_0.length:Int)))) * 1117)))) + (wrap64 ((wrap64 ((wrap64 (s0_1 + 1)) - 1)) * 29)))) + (wrap64 ((wrap64 (Int.tdiv (wrap64 ((wrap64 (s0_1 + 1)) - 1)) (s0_0.length:Int))) * 53)))) (wrap64 (Int.tdiv (wrap64 ((wrap64 ((wrap64 ((wrap64 ((wrap64 (rd s0_0 (Int.tmod (wrap64 ((wrap64 (s0_1 + 1)) - 1)) (s0_0.length:Int)))) * 131)) + (wrap64 ((wrap64 (rd s0_0 (Int.tmod (wrap64 ((wrap64 ((wrap64 ((wrap64 (s0_1 + 1)) - 1)) * 7)) + 3)) (s0_0.length:Int)))) * 1117)))) + (wrap64 ((wrap64 ((wrap64 (s0_1 + 1)) - 1)) * 29)))) + (wrap64 ((wrap64 (Int.tdiv (wrap64 ((wrap64 (s0_1 + 1)) - 1)) (s0_0.length:Int))) * 53)))) 64))) a1,(wrap64 (s0_1 + 1))))) else (none)) else (none)) else (none)) else (none)))) = some (r1,r2):=by rw [if_neg (show ¬ (false = true) by decide)] at H;exact H
    clear H
    have H:=H1
    clear H1
    by_cases c8:(wrap64 ((wrap64 (s0_1 + 1)) - 1)) < (s0_0.length:Int)
    ·rw [if_pos c8] at H
     have c8b0:decide ((wrap64 ((wrap64 (s0_1 + 1)) - 1)) < (s0_0.length:Int)) = true:=decide_eq_true c8
     clear c8
     obtain ⟨ji9,hji9⟩:∃ j_:Int,(wrap64 ((wrap64 (s0_1 + 1)) - 1)) = j_:=⟨_,rfl⟩
     replace H:(if 0 ≤ (ji9) then (if a1 = 0 then (none) else (some (Int.tmod (wrap64 (rd s0_0 (ji9))) a1,(wrap64 (s0_1 + 1))))) else (none)) = some (r1,r2):=by first | (rw [hji9] at H;exact H) | (simp only [hji9] at H ⊢;exact H)
     (try rw [hji9] at c8b0)
     have hji9w:(IntKind.i64.wrap ((wrap64 (s0_1 + 1)) - 1)) = ji9:=(i64_w _).trans hji9
     by_cases c10:0 ≤ (ji9)
     ·rw [if_pos c10] at H
      have c10b0:decide (0 ≤ (ji9)) = true:=decide_eq_true c10
      clear c10
      by_cases c11:a1 = 0
      ·rw [if_pos c11] at H
       exact absurd H (by simp)
      ·rw [if_neg c11] at H
       have c11b0:(a1 == 0) = false:=beq_eq_false_iff_ne.mpr c11
       have c11b1:(a1 != 0) = true:=bne_iff_ne.mpr c11
       simp only [Option.some.injEq,Prod.mk.injEq] at H
       obtain ⟨rfl,rfl⟩:=H
       obtain ⟨ASz12_0,cSz12_0,HGz12,hgz12,HSz12_0⟩:=HI0.out
       have hcz12_0:=cellS67_0 HGz12
       have hcz12_1:=cellS67_1 HGz12
       have hfz12_1:=blk_frozen HGz12 1
       clear HGz12 hgz12
       have p179:0 ≤ ((ji9):Int):=of_decide_eq_true (by assumption)
       have q179:(ji9) < (s0_0.length:Int):=of_decide_eq_true (by assumption)
       obtain ⟨ad179,e179,hx179_0⟩:=Kd.at_int HSz12_0 (ji9) p179 q179
       cases e179
       replace hx179_0:=pw_cell_below HB.out hx179_0
       replace p179:=eq_true p179
       replace q179:=eq_true q179
       go_wp2
       repeat (go_quiet (fail);try go_wp2)
       go_ret
       exact ⟨by first | rfl | (simp [errW_none,errW_some] <;> rfl) | (simp only [← hji9];first | rfl | (simp [errW_none,errW_some] <;> rfl)) | (simp [*,errW_none,errW_some] <;> rfl),by exact HI0.out,by exact HB.out,by exact HK.out⟩
     ·rw [if_neg c10] at H
      exact absurd H (by simp)
    ·rw [if_neg c8] at H
     have c8b0:decide ((wrap64 ((wrap64 (s0_1 + 1)) - 1)) < (s0_0.length:Int)) = false:=decide_eq_false c8
     clear c8
     by_cases c13:(s0_0.length:Int) = 0
     ·rw [if_pos c13] at H
      exact absurd H (by simp)
     ·rw [if_neg c13] at H
      have c13b0:((s0_0.length:Int) == 0) = false:=beq_eq_false_iff_ne.mpr c13
      have c13b1:((s0_0.length:Int) != 0) = true:=bne_iff_ne.mpr c13
      have c13b2:¬ (s0_0 = []):=fun h_=>c13 (by rw [h_];rfl)
      obtain ⟨ji14,hji14⟩:∃ j_:Int,(Int.tmod (wrap64 ((wrap64 (s0_1 + 1)) - 1)) (s0_0.length:Int)) = j_:=⟨_,rfl⟩
      replace H:(if 0 ≤ (ji14) then (if (ji14) < (s0_0.length:Int) then (if 0 ≤ (Int.tmod (wrap64 ((wrap64 ((wrap64 ((wrap64 (s0_1 + 1)) - 1)) * 7)) + 3)) (s0_0.length:Int)) then (if (Int.tmod (wrap64 ((wrap64 ((wrap64 ((wrap64 (s0_1 + 1)) - 1)) * 7)) + 3)) (s0_0.length:Int)) < (s0_0.length:Int) then (if a1 = 0 then (none) else (some (Int.tmod (Go.bits .xor .i64 (wrap64 ((wrap64 ((wrap64 ((wrap64 ((wrap64 (rd s0_0 (ji14))) * 131)) + (wrap64 ((wrap64 (rd s0_0 (Int.tmod (wrap64 ((wrap64 ((wrap64 ((wrap64 (s0_1 + 1)) - 1)) * 7)) + 3)) (s0_0.length:Int)))) * 1117)))) + (wrap64 ((wrap64 ((wrap64 (s0_1 + 1)) - 1)) * 29)))) + (wrap64 ((wrap64 (Int.tdiv (wrap64 ((wrap64 (s0_1 + 1)) - 1)) (s0_0.length:Int))) * 53)))) (wrap64 (Int.tdiv (wrap64 ((wrap64 ((wrap64 ((wrap64 ((wrap64 (rd s0_0 (ji14))) * 131)) + (wrap64 ((wrap64 (rd s0_0 (Int.tmod (wrap64 ((wrap64 ((wrap64 ((wrap64 (s0_1 + 1)) - 1)) * 7)) + 3)) (s0_0.length:Int)))) * 1117)))) + (wrap64 ((wrap64 ((wrap64 (s0_1 + 1)) - 1)) * 29)))) + (wrap64 ((wrap64 (Int.tdiv (wrap64 ((wrap64 (s0_1 + 1)) - 1)) (s0_0.length:Int))) * 53)))) 64))) a1,(wrap64 (s0_1 + 1))))) else (none)) else (none)) else (none)) else (none)) = some (r1,r2):=by first | (rw [hji14] at H;exact H) | (simp only [hji14] at H ⊢;exact H)
      by_cases c15:0 ≤ (ji14)
      ·rw [if_pos c15] at H
       have c15b0:decide (0 ≤ (ji14)) = true:=decide_eq_true c15
       clear c15
       by_cases c16:(ji14) < (s0_0.length:Int)
       ·rw [if_pos c16] at H
        have c16b0:decide ((ji14) < (s0_0.length:Int)) = true:=decide_eq_true c16
        clear c16
        obtain ⟨ji17,hji17⟩:∃ j_:Int,(Int.tmod (wrap64 ((wrap64 ((wrap64 ((wrap64 (s0_1 + 1)) - 1)) * 7)) + 3)) (s0_0.length:Int)) = j_:=⟨_,rfl⟩
        replace H:(if 0 ≤ (ji17) then (if (ji17) < (s0_0.length:Int) then (if a1 = 0 then (none) else (some (Int.tmod (Go.bits .xor .i64 (wrap64 ((wrap64 ((wrap64 ((wrap64 ((wrap64 (rd s0_0 (ji14))) * 131)) + (wrap64 ((wrap64 (rd s0_0 (ji17))) * 1117)))) + (wrap64 ((wrap64 ((wrap64 (s0_1 + 1)) - 1)) * 29)))) + (wrap64 ((wrap64 (Int.tdiv (wrap64 ((wrap64 (s0_1 + 1)) - 1)) (s0_0.length:Int))) * 53)))) (wrap64 (Int.tdiv (wrap64 ((wrap64 ((wrap64 ((wrap64 ((wrap64 (rd s0_0 (ji14))) * 131)) + (wrap64 ((wrap64 (rd s0_0 (ji17))) * 1117)))) + (wrap64 ((wrap64 ((wrap64 (s0_1 + 1)) - 1)) * 29)))) + (wrap64 ((wrap64 (Int.tdiv (wrap64 ((wrap64 (s0_1 + 1)) - 1)) (s0_0.length:Int))) * 53)))) 64))) a1,(wrap64 (s0_1 + 1))))) else (none)) else (none)) = some (r1,r2):=by first | (rw [hji17] at H;exact H) | (simp only [hji17] at H ⊢;exact H)
        by_cases c18:0 ≤ (ji17)
        ·rw [if_pos c18] at H
         have c18b0:decide (0 ≤ (ji17)) = true:=decide_eq_true c18
         clear c18
         by_cases c19:(ji17) < (s0_0.length:Int)
         ·rw [if_pos c19] at H
          have c19b0:decide ((ji17) < (s0_0.length:Int)) = true:=decide_eq_true c19
          clear c19
          by_cases c20:a1 = 0
          ·rw [if_pos c20] at H
           exact absurd H (by simp)
          ·rw [if_neg c20] at H
           have c20b0:(a1 == 0) = false:=beq_eq_false_iff_ne.mpr c20
           have c20b1:(a1 != 0) = true:=bne_iff_ne.mpr c20
           simp only [Option.some.injEq,Prod.mk.injEq] at H
           obtain ⟨rfl,rfl⟩:=H
           obtain ⟨ASz21_0,cSz21_0,HGz21,hgz21,HSz21_0⟩:=HI0.out
           have hcz21_0:=cellS67_0 HGz21
           have hcz21_1:=cellS67_1 HGz21
           have hfz21_1:=blk_frozen HGz21 1
           clear HGz21 hgz21
           have p180:0 ≤ ((ji14):Int):=of_decide_eq_true (by assumption)
           have q180:(ji14) < (s0_0.length:Int):=of_decide_eq_true (by assumption)
           obtain ⟨ad180,e180,hx180_0⟩:=Kd.at_int HSz21_0 (ji14) p180 q180
           cases e180
           replace hx180_0:=pw_cell_below HB.out hx180_0
           replace p180:=eq_true p180
           replace q180:=eq_true q180
           have p181:0 ≤ ((ji17):Int):=of_decide_eq_true (by assumption)
           have q181:(ji17) < (s0_0.length:Int):=of_decide_eq_true (by assumption)
           obtain ⟨ad181,e181,hx181_0⟩:=Kd.at_int HSz21_0 (ji17) p181 q181
           obtain rfl:ad180 = ad181:=(by injection e181)
           replace hx181_0:=pw_cell_below HB.out hx181_0
           replace p181:=eq_true p181
           replace q181:=eq_true q181
           go_wp2
           repeat (go_quiet (fail);try go_wp2)
           go_ret
           exact ⟨by first | rfl | (simp [errW_none,errW_some] <;> rfl) | (simp only [← hji14,← hji17];first | rfl | (simp [errW_none,errW_some] <;> rfl)) | (simp [*,errW_none,errW_some] <;> rfl),by repeat (with_reducible first | exact HI0.out | apply IsS67.alloc | apply IsS67.drewN | apply IsS67.drew | apply IsS67.set_1),by repeat (with_reducible first | exact HB.out | apply below_alloc | apply pw_below_drewN | apply below_drew1 | refine below_set ?_ (IsS67.ge HI0.out)),by repeat (with_reducible first | exact HK.out | apply KeepBut.set_ | apply keep_drewN | apply keep_drew | apply keep_alloc)⟩
         ·rw [if_neg c19] at H
          exact absurd H (by simp)
        ·rw [if_neg c18] at H
         exact absurd H (by simp)
       ·rw [if_neg c16] at H
        exact absurd H (by simp)
      ·rw [if_neg c15] at H
       exact absurd H (by simp)
def impl_sums.l0:Nat → List Int → List Int → List Int → Int → Int → Option (List Int)
 | 0,_,_,_,_,_=>none
 | k + 1,x1,x7,x17,x18,x19=>if x19 < x18 then (if 0 ≤ x19 then (if x19 < (x17.length:Int) then (if x19 < (x1.length:Int) then (if 0 ≤ (rd x1 x19) then (if (rd x1 x19) < (x7.length:Int) then (impl_sums.l0 k x1 (x7.set ((rd x1 x19):Int).toNat (wrap64 ((rd x7 (rd x1 x19)) + (rd x17 x19)))) x17 x18 (wrap64 (x19 + 1))) else (none)) else (none)) else (none)) else (none)) else (none)) else (some x7)
def impl_sums.f (k:Nat) (l0_0:List Int) (l0_1:List (List Int)) (l1:List Int) (a2:Int):Option (List Int):=if 0 ≤ (l1.length:Int) then (if ((l1.length:Int):Int).toNat ≤ 35184372088832 then (if 0 ≤ a2 then (if a2 < (l0_1.length:Int) then (impl_sums.l0 k l1 (List.replicate ((l1.length:Int):Int).toNat 0) (rd_L1 l0_1 a2) ((rd_L1 l0_1 a2).length:Int) 0) else (none)) else (none)) else (none)) else (none)
theorem impl_sums.mono_l:∀ k,(∀ y0 y1 y2 y3 y4,LeO (impl_sums.l0 k y0 y1 y2 y3 y4) (impl_sums.l0 (k + 1) y0 y1 y2 y3 y4))
 | 0=>fun _ _ _ _ _ r h=>by simp [impl_sums.l0] at h
 | k + 1=>by
  have ih0:=impl_sums.mono_l k
  ·intro y0 y1 y2 y3 y4
   unfold impl_sums.l0
   repeat' first
   | (with_reducible exact ih0 _ _ _ _ _)
   | (with_reducible exact LeO.refl _)
   | (with_reducible exact LeO.none _)
   | (with_reducible refine LeO.ite ?_ ?_)
   | (with_reducible refine LeO.bind ?_ (fun _=>?_))
   | exact ih0 _ _ _ _ _
   | exact LeO.none _
   | refine LeO.ite ?_ ?_
   | refine LeO.bind ?_ (fun _=>?_)
theorem impl_sums.mono:∀ a0 a1 a2 a3 k,LeO (impl_sums.f k a0 a1 a2 a3) (impl_sums.f (k + 1) a0 a1 a2 a3):=by
 intro a0 a1 a2 a3 k
 have ih0:=impl_sums.mono_l k
 unfold impl_sums.f
 repeat' first
   | (with_reducible exact ih0 _ _ _ _ _)
   | (with_reducible exact LeO.refl _)
   | (with_reducible exact LeO.none _)
   | (with_reducible refine LeO.ite ?_ ?_)
   | (with_reducible refine LeO.bind ?_ (fun _=>?_))
   | exact ih0 _ _ _ _ _
   | exact LeO.none _
   | refine LeO.ite ?_ ?_
   | refine LeO.bind ?_ (fun _=>?_)
set_option maxHeartbeats 8000000 in
set_option maxRecDepth 100000 in
theorem impl_sums.calls (k:Nat) (A0_0:Option Addr) (c0_0:Nat) (l0_0:List Int) (A0_1:Option Addr) (c0_1:Nat) (l0_1:List (List Int)) (A1:Option Addr) (c1:Nat) (l1:List Int) (a2:Int) (r:List Int) (w:World) (hr0_0:Kd.C (Kd.int .i64) w A0_0 l0_0.length l0_0) (hc0_0:l0_0.length ≤ c0_0) (hr0_1:Kd.C (Kd.slice 3 (Kd.int .i64)) w A0_1 l0_1.length l0_1) (hc0_1:l0_1.length ≤ c0_1) (hr1:Kd.C (Kd.int .i64) w A1 l1.length l1) (hc1:l1.length ≤ c1) (h:impl_sums.f k l0_0 l0_1 l1 a2 = some r) :
  Calls Try.prog 47 #[.agg #[.slice A0_0 l0_0.length c0_0,.slice A0_1 l0_1.length c0_1],.slice A1 l1.length c1,.int .i64 a2] w fun e w'=>∃ v0_:Value,e = .returned (v0_)∧Kd.R (Kd.int .i64) 3 w' w.heap.size (fun _=>True) v0_ r∧Below w.heap.size w w':=by
 have hu28:=Try.underlying28
 have HR0_0:=Aside0.mk hr0_0
 have HC0_0:=Aside0.mk hc0_0
 clear hr0_0 hc0_0
 have HR0_1:=Aside0.mk hr0_1
 have HC0_1:=Aside0.mk hc0_1
 clear hr0_1 hc0_1
 have HR1:=Aside0.mk hr1
 have HC1:=Aside0.mk hc1
 clear hr1 hc1
 have HB:=Aside0.mk (Below.refl w.heap.size w)
 have H:(if 0 ≤ (l1.length:Int) then (if ((l1.length:Int):Int).toNat ≤ 35184372088832 then (if 0 ≤ a2 then (if a2 < (l0_1.length:Int) then (impl_sums.l0 k l1 (List.replicate ((l1.length:Int):Int).toNat 0) (rd_L1 l0_1 a2) ((rd_L1 l0_1 a2).length:Int) 0) else (none)) else (none)) else (none)) else (none)) = some r:=h
 clear h
 by_cases c4:0 ≤ (l1.length:Int)
 ·rw [if_pos c4] at H
  have c4b0:=eq_true c4
  have c4b1:decide (0 ≤ (l1.length:Int)) = true:=decide_eq_true c4
  clear c4
  by_cases c5:((l1.length:Int):Int).toNat ≤ 35184372088832
  ·rw [if_pos c5] at H
   have c5b0:=eq_true c5
   have c5b1:decide (((l1.length:Int):Int).toNat ≤ 35184372088832) = true:=decide_eq_true c5
   clear c5
   obtain ⟨y197,hy197⟩:∃ y_:List Int,y_ = (List.replicate ((l1.length:Int):Int).toNat 0):=⟨_,rfl⟩
   replace H:(if 0 ≤ a2 then (if a2 < (l0_1.length:Int) then (impl_sums.l0 k l1 y197 (rd_L1 l0_1 a2) ((rd_L1 l0_1 a2).length:Int) 0) else (none)) else (none)) = some r:=by rw [hy197];exact H
   have Ny197:=Aside0.mk hy197
   clear hy197
   by_cases c6:0 ≤ a2
   ·rw [if_pos c6] at H
    have c6b0:decide (0 ≤ a2) = true:=decide_eq_true c6
    clear c6
    by_cases c7:a2 < (l0_1.length:Int)
    ·rw [if_pos c7] at H
     have c7b0:decide (a2 < (l0_1.length:Int)) = true:=decide_eq_true c7
     clear c7
     have H':=Aside0.mk H
     clear H
     go_enter Try.func47,Try.ntmps47
     go_wp2_with (first | ((with_reducible refine gate_dst (N:=3) rfl ?_);refine box_event ?hg (N:=3) ?hd (cs:=#[.slice A0_0 l0_0.length c0_0,.slice A0_1 l0_1.length c0_1]) (t:=28) ?hr ?_;(case hd=>rfl);(case hg=>rfl);(case hr=>first | (go_simp;done) | (go_simp;rfl));intro gb196 hg w8 hbox hb;have n0_:=Aside0.mk (below_step (by exact HB.out) hb);have n1_:=Aside0.mk (hbox);have n2_:=Aside0.mk ((by rw [hg];exact (below_size (by exact HB.out)):w.heap.size ≤ gb196));have n3_:=Aside0.mk ((by rw [hg];exact (below_size (by exact HB.out)):w.heap.size ≤ gb196));clear HB;have HB:=n0_;have BK196:=n1_;have GW196:=n2_;have GE196:=n3_;clear n0_ n1_ n2_ n3_;clear hb hbox hg) | ((with_reducible refine gate_dst (N:=12) rfl ?_);refine Kd.R_make (Kd.int .i64) _ 3 rfl (N:=12) rfl 22 _ _ rfl (l1.length:Int) rfl rfl Try.underlying22 (.int .i64 0) 8 info3 rfl (by decide) (by omega) 0 (ok:=fun _=>True) (okp:=fun _=>True) rfl (fun _ hk=>hk) trivial (of_decide_eq_true (by assumption)) (Nat.le_trans (Nat.mul_le_mul_right _ (of_decide_eq_true (by assumption):(l1.length:Int).toNat ≤ 35184372088832)) (by omega)) (Below.refl _ _) (Nat.le_refl _) ?_;intro v198 w9 ho10 hb hg_ hnew_;clear hg_ hnew_;(first | rw [← Ny197.out] at ho10 | (simp only [Int.reduceToNat] at ho10;rw [← Ny197.out] at ho10));have n0_:=Aside0.mk (Kd.R_lower ho10 (below_size (by exact HB.out)));have n1_:=Aside0.mk (blk_below (g:=gb196) (o:=.cells #[.slice A0_0 l0_0.length c0_0,.slice A0_1 l0_1.length c0_1] 28 (0,0)) (by exact BK196.out) hb);have n2_:=Aside0.mk (below_step (by exact HB.out) hb);clear BK196;clear HB;have HO199:=n0_;have BK196:=n1_;have HB:=n2_;clear n0_ n1_ n2_;clear hb ho10;have hcz11_0:w9.cell? ⟨gb196,0,none⟩ = some (.slice A0_0 l0_0.length c0_0):=(blk_cell BK196.out 0).trans rfl;have hcz11_1:w9.cell? ⟨gb196,1,none⟩ = some (.slice A0_1 l0_1.length c0_1):=(blk_cell BK196.out 1).trans rfl;have hfz11_0:=blk_frozen BK196.out 0;have hfz11_1:=blk_frozen BK196.out 1;have p200:0 ≤ (a2:Int):=of_decide_eq_true (by assumption);have q200:a2 < (l0_1.length:Int):=of_decide_eq_true (by assumption);obtain ⟨ad200,A200_0,c200_0,e200,hx200_0,hl200_0,hi200_0⟩:=at_L1 HR0_1.out a2 p200 q200;cases e200;replace hx200_0:=(HB.out.cell (World.block_lt_of_cell? w _ hx200_0)).trans hx200_0;have HR200_0:=Aside0.mk hi200_0;have HC200_0:=Aside0.mk hl200_0;clear hi200_0 hl200_0;replace p200:=eq_true p200;replace q200:=eq_true q200))
     go_loopg [19] k (fun kq v19 w'=>∃ (x7_1:List Int) (x19_1:Int),v19 = .int .i64 x19_1∧Aside0 (impl_sums.l0 kq l1 x7_1 (rd_L1 l0_1 a2) ((rd_L1 l0_1 a2).length:Int) x19_1 = some r)∧Aside0 (kq ≤ k)∧Aside0 (Kd.R (Kd.int .i64) 3 w' w.heap.size (fun _=>True) v198 x7_1)∧Aside0 (w'.heap[gb196]? = some (.cells #[(.slice A0_0 l0_0.length c0_0),(.slice (some ad200) l0_1.length c0_1)] 28 (0,0)))∧Aside0 (Below w.heap.size w w'))
     case atStart=>exact ⟨(y197),(0),(by first | rfl | (simp;done) | (simp [*];done)),H',⟨Nat.le_refl _⟩,⟨by exact HO199.out⟩,⟨by exact BK196.out⟩,⟨by exact HB.out⟩⟩
     case round =>
      clear H'
      try clear c1
      try clear c2
      try clear p2
      try clear q2
      try clear hx2
      try clear c4
      try clear c4b0
      try clear c4b1
      try clear c5
      try clear c5b0
      try clear c5b1
      try clear c6
      try clear c6b0
      try clear c7
      try clear c7b0
      try clear hcz11_0
      try clear hcz11_1
      try clear hfz11_0
      try clear hfz11_1
      try clear hx200_0
      try clear p200
      try clear q200
      obtain ⟨x7_1,x19_1,rfl,HA,HK1,HO_7,BK196,HB⟩:=hrel
      cases gk with
      | zero=>exact absurd HA.out (by simp [impl_sums.l0])
      | succ k1 =>
       have H:=HA.out
       clear HA
       simp only [impl_sums.l0] at H
       by_cases c12:x19_1 < ((rd_L1 l0_1 a2).length:Int)
       ·rw [if_pos c12] at H
        have c12b0:decide (x19_1 < ((rd_L1 l0_1 a2).length:Int)) = true:=decide_eq_true c12
        clear c12
        by_cases c13:0 ≤ x19_1
        ·rw [if_pos c13] at H
         have c13b0:decide (0 ≤ x19_1) = true:=decide_eq_true c13
         clear c13
         by_cases c14:x19_1 < ((rd_L1 l0_1 a2).length:Int)
         ·rw [if_pos c14] at H
          have c14b0:decide (x19_1 < ((rd_L1 l0_1 a2).length:Int)) = true:=decide_eq_true c14
          clear c14
          by_cases c15:x19_1 < (l1.length:Int)
          ·rw [if_pos c15] at H
           have c15b0:decide (x19_1 < (l1.length:Int)) = true:=decide_eq_true c15
           clear c15
           by_cases c16:0 ≤ (rd l1 x19_1)
           ·rw [if_pos c16] at H
            have c16b0:decide (0 ≤ (rd l1 x19_1)) = true:=decide_eq_true c16
            clear c16
            by_cases c17:(rd l1 x19_1) < (x7_1.length:Int)
            ·rw [if_pos c17] at H
             have c17b0:decide ((rd l1 x19_1) < (x7_1.length:Int)) = true:=decide_eq_true c17
             clear c17
             obtain ⟨y204,hy204⟩:∃ y_:List Int,y_ = (x7_1.set ((rd l1 x19_1):Int).toNat (wrap64 ((rd x7_1 (rd l1 x19_1)) + (rd (rd_L1 l0_1 a2) x19_1)))):=⟨_,rfl⟩
             replace H:(impl_sums.l0 k1 l1 y204 (rd_L1 l0_1 a2) ((rd_L1 l0_1 a2).length:Int) (wrap64 (x19_1 + 1))) = some r:=by rw [hy204];exact H
             have Ny204:=Aside0.mk hy204
             clear hy204
             have H':=Aside0.mk H
             clear H
             have p201:0 ≤ (x19_1:Int):=of_decide_eq_true (by assumption)
             have q201:x19_1 < ((rd_L1 l0_1 a2).length:Int):=of_decide_eq_true (by assumption)
             obtain ⟨ad201,e201,hx201_0⟩:=Kd.at_int HR200_0.out x19_1 p201 q201
             cases e201
             replace hx201_0:=(HB.out.cell (World.block_lt_of_cell? w _ hx201_0)).trans hx201_0
             replace p201:=eq_true p201
             replace q201:=eq_true q201
             have p202:0 ≤ (x19_1:Int):=of_decide_eq_true (by assumption)
             have q202:x19_1 < (l1.length:Int):=of_decide_eq_true (by assumption)
             obtain ⟨ad202,e202,hx202_0⟩:=Kd.at_int HR1.out x19_1 p202 q202
             cases e202
             replace hx202_0:=(HB.out.cell (World.block_lt_of_cell? w _ hx202_0)).trans hx202_0
             replace p202:=eq_true p202
             replace q202:=eq_true q202
             obtain ⟨Ao19,co19,eo19⟩:=Kd.R_slice HO_7.out
             subst eo19
             have p203:0 ≤ ((rd l1 x19_1):Int):=of_decide_eq_true (by assumption)
             have q203:(rd l1 x19_1) < (x7_1.length:Int):=of_decide_eq_true (by assumption)
             obtain ⟨ad203,e203,hx203_0⟩:=Kd.at_int (Kd.R_reads' HO_7.out).2.2 (rd l1 x19_1) p203 q203
             cases e203
             replace p203:=eq_true p203
             replace q203:=eq_true q203
             have p18:0 ≤ ((rd l1 x19_1):Int):=of_decide_eq_true (by assumption)
             have q18:((rd l1 x19_1):Int) < ((x7_1.length:Int):Int):=of_decide_eq_true (by assumption)
             obtain ⟨go18,co18,eo18,gb18,gl18,cl18,HG18⟩:=Kd.R_form HO_7.out (by omega)
             (first | cases eo18 | (injection eo18 with ea_ en_ ec_;(first | subst ea_ | (injection ea_ with ea_;subst ea_));subst ec_;clear en_))
             have GB18:=Aside0.mk gb18
             have GG18:=Aside0.mk HG18
             clear gb18 gl18 HG18
             (first | simp only [add_plain] at hx203_0 | skip)
             obtain ⟨hx18_0,hf18_0⟩:=Kd.R_celln 0 HO_7.out ((rd l1 x19_1):Int) p18 q18
             replace p18:=eq_true p18
             replace q18:=eq_true q18
             have HP20:=Kd.R_putg HO_7.out ((rd l1 x19_1):Int) (wrap64 ((rd x7_1 (rd l1 x19_1)) + (rd (rd_L1 l0_1 a2) x19_1)))
             go_wp2_with (first | ((with_reducible refine gate_store (t:=3) (p:=33) rfl ?_);refine store_event (t:=3) (p:=33) (v:=?vo_w21) (w1:=(wr.setCell ⟨go18,((rd l1 x19_1):Int).toNat,none⟩ (.int .i64 (wrap64 ((rd x7_1 (rd l1 x19_1)) + (rd (rd_L1 l0_1 a2) x19_1)))))) ?hg ?ho ?hn ?hr ?_;(case ho=>rfl);(case hg=>rfl);(case hn=>rfl);(case hr=>first | (go_simp;done) | (go_simp;rfl));intro w21 hw;have hg:wr.grownBy w21 (some go18):=(by rw [hw];exact HP20.2);have hp_:Kd.R (Kd.int .i64) 3 w21 w.heap.size (fun _=>True) (.slice (some ⟨go18,0,none⟩) x7_1.length co19) y204:=(by rw [hw,Ny204.out];exact HP20.1);clear HP20;have n0_:=Aside0.mk (hp_);have n1_:=Aside0.mk (blk_grown (g:=gb196) (o:=.cells #[.slice A0_0 l0_0.length c0_0,.slice (some ad200) l0_1.length c0_1] 28 (0,0)) (by exact BK196.out) hg (Kd.R_ne HO_7.out BK196.out (by decide)));have n2_:=Aside0.mk ((by rw [hw];exact below_set (HB.out) GB18.out:Below w.heap.size w w21));clear HO_7;clear BK196;clear HB;have HO_7:=n0_;have BK196:=n1_;have HB:=n2_;clear n0_ n1_ n2_;clear hg hw hp_))
             go_roundg k1
             case measure=>have:=HK1.out;omega
             case rel=>exact ⟨(y204),(wrap64 (x19_1 + 1)),(by first | rfl | (simp;done) | (simp [*];done)),H',⟨by have:=HK1.out;omega⟩,⟨by exact HO_7.out⟩,⟨by exact BK196.out⟩,⟨by exact HB.out⟩⟩
            ·rw [if_neg c17] at H
             exact absurd H (by simp)
           ·rw [if_neg c16] at H
            exact absurd H (by simp)
          ·rw [if_neg c15] at H
           exact absurd H (by simp)
         ·rw [if_neg c14] at H
          exact absurd H (by simp)
        ·rw [if_neg c13] at H
         exact absurd H (by simp)
       ·rw [if_neg c12] at H
        have c12b0:decide (x19_1 < ((rd_L1 l0_1 a2).length:Int)) = false:=decide_eq_false c12
        clear c12
        obtain rfl:=Option.some.inj H
        go_wp2
        go_ret
        exact ⟨_,rfl,by exact HO_7.out,by exact HB.out⟩
    ·rw [if_neg c7] at H
     exact absurd H (by simp)
   ·rw [if_neg c6] at H
    exact absurd H (by simp)
  ·rw [if_neg c5] at H
   exact absurd H (by simp)
 ·rw [if_neg c4] at H
  exact absurd H (by simp)
def laws_mnInts.l0:Nat → List Int → List Int → Int → Option (Bool)
 | 0,_,_,_=>none
 | k + 1,x0,x1,x5=>if x5 < (x0.length:Int) then (if 0 ≤ x5 then (if x5 < (x1.length:Int) then (if (rd x0 x5) = (rd x1 x5) then (laws_mnInts.l0 k x0 x1 (wrap64 (x5 + 1))) else (some false)) else (none)) else (none)) else (some true)
def laws_mnInts.f (k:Nat) (l0:List Int) (l1:List Int):Option (Bool):=if (l0.length:Int) = (l1.length:Int) then (laws_mnInts.l0 k l0 l1 0) else (some false)
theorem laws_mnInts.mono_l:∀ k,(∀ y0 y1 y2,LeO (laws_mnInts.l0 k y0 y1 y2) (laws_mnInts.l0 (k + 1) y0 y1 y2))
 | 0=>fun _ _ _ r h=>by simp [laws_mnInts.l0] at h
 | k + 1=>by
  have ih0:=laws_mnInts.mono_l k
  ·intro y0 y1 y2
   unfold laws_mnInts.l0
   repeat' first
   | (with_reducible exact ih0 _ _ _)
   | (with_reducible exact LeO.refl _)
   | (with_reducible exact LeO.none _)
   | (with_reducible refine LeO.ite ?_ ?_)
   | (with_reducible refine LeO.bind ?_ (fun _=>?_))
   | exact ih0 _ _ _
   | exact LeO.none _
   | refine LeO.ite ?_ ?_
   | refine LeO.bind ?_ (fun _=>?_)
theorem laws_mnInts.mono:∀ a0 a1 k,LeO (laws_mnInts.f k a0 a1) (laws_mnInts.f (k + 1) a0 a1):=by
 intro a0 a1 k
 have ih0:=laws_mnInts.mono_l k
 unfold laws_mnInts.f
 repeat' first
   | (with_reducible exact ih0 _ _ _)
   | (with_reducible exact LeO.refl _)
   | (with_reducible exact LeO.none _)
   | (with_reducible refine LeO.ite ?_ ?_)
   | (with_reducible refine LeO.bind ?_ (fun _=>?_))
   | exact ih0 _ _ _
   | exact LeO.none _
   | refine LeO.ite ?_ ?_
   | refine LeO.bind ?_ (fun _=>?_)
set_option maxHeartbeats 8000000 in
set_option maxRecDepth 100000 in
theorem laws_mnInts.calls (k:Nat) (A0:Option Addr) (c0:Nat) (l0:List Int) (A1:Option Addr) (c1:Nat) (l1:List Int) (r:Bool) (w:World) (hr0:Kd.C (Kd.int .i64) w A0 l0.length l0) (hc0:l0.length ≤ c0) (hr1:Kd.C (Kd.int .i64) w A1 l1.length l1) (hc1:l1.length ≤ c1) (h:laws_mnInts.f k l0 l1 = some r) :
  Calls Try.prog 24 #[.slice A0 l0.length c0,.slice A1 l1.length c1] w fun e w'=>e = .returned (.bool r)∧Drawn0 w w':=by
 have HR0:=Aside0.mk hr0
 have HC0:=Aside0.mk hc0
 clear hr0 hc0
 have HR1:=Aside0.mk hr1
 have HC1:=Aside0.mk hc1
 clear hr1 hc1
 have H:(if (l0.length:Int) = (l1.length:Int) then (laws_mnInts.l0 k l0 l1 0) else (some false)) = some r:=h
 clear h
 by_cases c3:(l0.length:Int) = (l1.length:Int)
 ·rw [if_pos c3] at H
  have c3b0:((l0.length:Int) == (l1.length:Int)) = true:=beq_iff_eq.mpr c3
  have c3b1:((l0.length:Int) != (l1.length:Int)) = false:=bne_eq_false_iff_eq.mpr c3
  have c3b2:(l0.length == l1.length) = true:=by first | simpa using c3 | (simp at c3 ⊢;omega)
  clear c3
  have H':=Aside0.mk H
  clear H
  go_enter Try.func24,Try.ntmps24
  go_wp2
  repeat (go_quiet (fail);try go_wp2)
  go_loopg [5] k (fun kq v5 w'=>∃ (x5_1:Int),v5 = .int .i64 x5_1∧Aside0 (laws_mnInts.l0 kq l0 l1 x5_1 = some r)∧Aside0 (kq ≤ k)∧Drawn0 w w')
  case atStart=>exact ⟨(0),(by first | rfl | (simp;done) | (simp [*];done)),H',⟨Nat.le_refl _⟩,by repeat (first | exact Drawn0.refl _ | apply Drawn0.step)⟩
  case round =>
   clear H'
   try clear c1
   try clear c2
   try clear p2
   try clear c3
   try clear c3b0
   try clear c3b1
   try clear c3b2
   obtain ⟨x5_1,rfl,HA,HK1,⟨m1,rfl⟩⟩:=hrel
   cases gk with
   | zero=>exact absurd HA.out (by simp [laws_mnInts.l0])
   | succ k1 =>
    have H:=HA.out
    clear HA
    simp only [laws_mnInts.l0] at H
    by_cases c4:x5_1 < (l0.length:Int)
    ·rw [if_pos c4] at H
     have c4b0:decide (x5_1 < (l0.length:Int)) = true:=decide_eq_true c4
     clear c4
     by_cases c5:0 ≤ x5_1
     ·rw [if_pos c5] at H
      have c5b0:decide (0 ≤ x5_1) = true:=decide_eq_true c5
      clear c5
      by_cases c6:x5_1 < (l1.length:Int)
      ·rw [if_pos c6] at H
       have c6b0:decide (x5_1 < (l1.length:Int)) = true:=decide_eq_true c6
       clear c6
       by_cases c7:(rd l0 x5_1) = (rd l1 x5_1)
       ·rw [if_pos c7] at H
        have c7b0:((rd l0 x5_1) == (rd l1 x5_1)) = true:=beq_iff_eq.mpr c7
        have c7b1:((rd l0 x5_1) != (rd l1 x5_1)) = false:=bne_eq_false_iff_eq.mpr c7
        clear c7
        have H':=Aside0.mk H
        clear H
        have p328:0 ≤ (x5_1:Int):=of_decide_eq_true (by assumption)
        have q328:x5_1 < (l0.length:Int):=of_decide_eq_true (by assumption)
        obtain ⟨ad328,e328,hx328_0⟩:=Kd.at_int HR0.out x5_1 p328 q328
        cases e328
        replace p328:=eq_true p328
        replace q328:=eq_true q328
        have p329:0 ≤ (x5_1:Int):=of_decide_eq_true (by assumption)
        have q329:x5_1 < (l1.length:Int):=of_decide_eq_true (by assumption)
        obtain ⟨ad329,e329,hx329_0⟩:=Kd.at_int HR1.out x5_1 p329 q329
        cases e329
        replace p329:=eq_true p329
        replace q329:=eq_true q329
        go_wp2
        repeat (go_quiet (fail);try go_wp2)
        go_roundg k1
        case measure=>have:=HK1.out;omega
        case rel=>exact ⟨(wrap64 (x5_1 + 1)),(by first | rfl | (simp;done) | (simp [*];done)),H',⟨by have:=HK1.out;omega⟩,by repeat (first | exact Drawn0.refl _ | apply Drawn0.step)⟩
       ·rw [if_neg c7] at H
        have c7b0:((rd l0 x5_1) == (rd l1 x5_1)) = false:=beq_eq_false_iff_ne.mpr c7
        have c7b1:((rd l0 x5_1) != (rd l1 x5_1)) = true:=bne_iff_ne.mpr c7
        obtain rfl:=Option.some.inj H
        have p328:0 ≤ (x5_1:Int):=of_decide_eq_true (by assumption)
        have q328:x5_1 < (l0.length:Int):=of_decide_eq_true (by assumption)
        obtain ⟨ad328,e328,hx328_0⟩:=Kd.at_int HR0.out x5_1 p328 q328
        cases e328
        replace p328:=eq_true p328
        replace q328:=eq_true q328
        have p329:0 ≤ (x5_1:Int):=of_decide_eq_true (by assumption)
        have q329:x5_1 < (l1.length:Int):=of_decide_eq_true (by assumption)
        obtain ⟨ad329,e329,hx329_0⟩:=Kd.at_int HR1.out x5_1 p329 q329
        cases e329
        replace p329:=eq_true p329
        replace q329:=eq_true q329
        go_wp2
        repeat (go_quiet (fail);try go_wp2)
        go_ret
        exact ⟨by first | rfl | (simp;done) | (simp [*];done),by repeat (first | exact Drawn0.refl _ | apply Drawn0.step)⟩
      ·rw [if_neg c6] at H
       exact absurd H (by simp)
     ·rw [if_neg c5] at H
      exact absurd H (by simp)
    ·rw [if_neg c4] at H
     have c4b0:decide (x5_1 < (l0.length:Int)) = false:=decide_eq_false c4
     clear c4
     obtain rfl:=Option.some.inj H
     go_wp2
     repeat (go_quiet (fail);try go_wp2)
     go_ret
     exact ⟨by first | rfl | (simp;done) | (simp [*];done),by repeat (first | exact Drawn0.refl _ | apply Drawn0.step)⟩
 ·rw [if_neg c3] at H
  have c3b0:((l0.length:Int) == (l1.length:Int)) = false:=beq_eq_false_iff_ne.mpr c3
  have c3b1:((l0.length:Int) != (l1.length:Int)) = true:=bne_iff_ne.mpr c3
  have c3b2:(l0.length == l1.length) = false:=by first | simpa using c3 | (simp at c3 ⊢;omega)
  obtain rfl:=Option.some.inj H
  go_enter Try.func24,Try.ntmps24
  go_wp2
  repeat (go_quiet (fail);try go_wp2)
  go_ret
  exact ⟨by first | rfl | (simp;done) | (simp [*];done),by repeat (first | exact Drawn0.refl _ | apply Drawn0.step)⟩
def spec_l18Into.l0:Nat → Int → List Int → Int → Int → Int → List Int → List (List Int) → Option (Int)
 | 0,_,_,_,_,_,_,_=>none
 | k + 1,x1,x2,x3,x9,x10,x400000,x400001=>if x10 < (x2.length:Int) then (if 0 ≤ x10 then (if (rd x2 x10) = x3 then (if 0 ≤ x1 then (if x1 < (x400001.length:Int) then (if x10 < ((rd_L1 x400001 x1).length:Int) then (spec_l18Into.l0 k x1 x2 x3 (wrap64 (x9 + (rd (rd_L1 x400001 x1) x10))) (wrap64 (x10 + 1)) x400000 x400001) else (none)) else (none)) else (none)) else (spec_l18Into.l0 k x1 x2 x3 x9 (wrap64 (x10 + 1)) x400000 x400001)) else (none)) else (some x9)
def spec_l18Into.f (k:Nat) (l0_0:List Int) (l0_1:List (List Int)) (a1:Int) (l2:List Int) (a3:Int):Option (Int):=spec_l18Into.l0 k a1 l2 a3 0 0 l0_0 l0_1
theorem spec_l18Into.mono_l:∀ k,(∀ y0 y1 y2 y3 y4 y5 y6,LeO (spec_l18Into.l0 k y0 y1 y2 y3 y4 y5 y6) (spec_l18Into.l0 (k + 1) y0 y1 y2 y3 y4 y5 y6))
 | 0=>fun _ _ _ _ _ _ _ r h=>by simp [spec_l18Into.l0] at h
 | k + 1=>by
  have ih0:=spec_l18Into.mono_l k
  ·intro y0 y1 y2 y3 y4 y5 y6
   unfold spec_l18Into.l0
   repeat' first
   | (with_reducible exact ih0 _ _ _ _ _ _ _)
   | (with_reducible exact LeO.refl _)
   | (with_reducible exact LeO.none _)
   | (with_reducible refine LeO.ite ?_ ?_)
   | (with_reducible refine LeO.bind ?_ (fun _=>?_))
   | exact ih0 _ _ _ _ _ _ _
   | exact LeO.none _
   | refine LeO.ite ?_ ?_
   | refine LeO.bind ?_ (fun _=>?_)
theorem spec_l18Into.mono:∀ a0 a1 a2 a3 a4 k,LeO (spec_l18Into.f k a0 a1 a2 a3 a4) (spec_l18Into.f (k + 1) a0 a1 a2 a3 a4):=by
 intro a0 a1 a2 a3 a4 k
 have ih0:=spec_l18Into.mono_l k
 unfold spec_l18Into.f
 repeat' first
   | (with_reducible exact ih0 _ _ _ _ _ _ _)
   | (with_reducible exact LeO.refl _)
   | (with_reducible exact LeO.none _)
   | (with_reducible refine LeO.ite ?_ ?_)
   | (with_reducible refine LeO.bind ?_ (fun _=>?_))
   | exact ih0 _ _ _ _ _ _ _
   | exact LeO.none _
   | refine LeO.ite ?_ ?_
   | refine LeO.bind ?_ (fun _=>?_)
set_option maxHeartbeats 8000000 in
set_option maxRecDepth 100000 in
theorem spec_l18Into.calls (k:Nat) (A0_0:Option Addr) (c0_0:Nat) (l0_0:List Int) (A0_1:Option Addr) (c0_1:Nat) (l0_1:List (List Int)) (a1:Int) (A2:Option Addr) (c2:Nat) (l2:List Int) (a3:Int) (r:Int) (w:World) (hr0_0:Kd.C (Kd.int .i64) w A0_0 l0_0.length l0_0) (hc0_0:l0_0.length ≤ c0_0) (hr0_1:Kd.C (Kd.slice 3 (Kd.int .i64)) w A0_1 l0_1.length l0_1) (hc0_1:l0_1.length ≤ c0_1) (hr2:Kd.C (Kd.int .i64) w A2 l2.length l2) (hc2:l2.length ≤ c2) (h:spec_l18Into.f k l0_0 l0_1 a1 l2 a3 = some r) :
  Calls Try.prog 57 #[.agg #[.slice A0_0 l0_0.length c0_0,.slice A0_1 l0_1.length c0_1],.int .i64 a1,.slice A2 l2.length c2,.int .i64 a3] w fun e w'=>e = .returned (.int .i64 r)∧Below w.heap.size w w':=by
 have hu28:=Try.underlying28
 have HR0_0:=Aside0.mk hr0_0
 have HC0_0:=Aside0.mk hc0_0
 clear hr0_0 hc0_0
 have HR0_1:=Aside0.mk hr0_1
 have HC0_1:=Aside0.mk hc0_1
 clear hr0_1 hc0_1
 have HR2:=Aside0.mk hr2
 have HC2:=Aside0.mk hc2
 clear hr2 hc2
 have HB:=Aside0.mk (Below.refl w.heap.size w)
 have H:(spec_l18Into.l0 k a1 l2 a3 0 0 l0_0 l0_1) = some r:=h
 clear h
 have H':=Aside0.mk H
 clear H
 go_enter Try.func57,Try.ntmps57
 go_wp2_with (first | ((with_reducible refine gate_dst (N:=4) rfl ?_);refine box_event ?hg (N:=4) ?hd (cs:=#[.slice A0_0 l0_0.length c0_0,.slice A0_1 l0_1.length c0_1]) (t:=28) ?hr ?_;(case hd=>rfl);(case hg=>rfl);(case hr=>first | (go_simp;done) | (go_simp;rfl));intro gb399 hg w5 hbox hb;have n0_:=Aside0.mk (below_step (by exact HB.out) hb);have n1_:=Aside0.mk (hbox);have n2_:=Aside0.mk ((by rw [hg];exact (below_size (by exact HB.out)):w.heap.size ≤ gb399));have n3_:=Aside0.mk ((by rw [hg];exact (below_size (by exact HB.out)):w.heap.size ≤ gb399));clear HB;have HB:=n0_;have BK399:=n1_;have GW399:=n2_;have GE399:=n3_;clear n0_ n1_ n2_ n3_;clear hb hbox hg))
 go_loopg [9,10] k (fun kq v9 v10 w'=>∃ (x9_1:Int) (x10_1:Int),v9 = .int .i64 x9_1∧v10 = .int .i64 x10_1∧Aside0 (spec_l18Into.l0 kq a1 l2 a3 x9_1 x10_1 l0_0 l0_1 = some r)∧Aside0 (kq ≤ k)∧Aside0 (w'.heap[gb399]? = some (.cells #[(.slice A0_0 l0_0.length c0_0),(.slice A0_1 l0_1.length c0_1)] 28 (0,0)))∧Aside0 (Below w.heap.size w w'))
 case atStart=>exact ⟨(0),(0),(by first | rfl | (simp;done) | (simp [*];done)),(by first | rfl | (simp;done) | (simp [*];done)),H',⟨Nat.le_refl _⟩,⟨by exact BK399.out⟩,⟨by exact HB.out⟩⟩
 case round =>
  clear H'
  try clear c2
  try clear p2
  try clear c5
  obtain ⟨x9_1,x10_1,rfl,rfl,HA,HK1,BK399,HB⟩:=hrel
  cases gk with
  | zero=>exact absurd HA.out (by simp [spec_l18Into.l0])
  | succ k1 =>
   have H:=HA.out
   clear HA
   simp only [spec_l18Into.l0] at H
   by_cases c6:x10_1 < (l2.length:Int)
   ·rw [if_pos c6] at H
    have c6b0:decide (x10_1 < (l2.length:Int)) = true:=decide_eq_true c6
    clear c6
    by_cases c7:0 ≤ x10_1
    ·rw [if_pos c7] at H
     have c7b0:decide (0 ≤ x10_1) = true:=decide_eq_true c7
     clear c7
     by_cases c8:(rd l2 x10_1) = a3
     ·rw [if_pos c8] at H
      have c8b0:((rd l2 x10_1) == a3) = true:=beq_iff_eq.mpr c8
      have c8b1:((rd l2 x10_1) != a3) = false:=bne_eq_false_iff_eq.mpr c8
      clear c8
      by_cases c9:0 ≤ a1
      ·rw [if_pos c9] at H
       have c9b0:decide (0 ≤ a1) = true:=decide_eq_true c9
       clear c9
       by_cases c10:a1 < (l0_1.length:Int)
       ·rw [if_pos c10] at H
        have c10b0:decide (a1 < (l0_1.length:Int)) = true:=decide_eq_true c10
        clear c10
        by_cases c11:x10_1 < ((rd_L1 l0_1 a1).length:Int)
        ·rw [if_pos c11] at H
         have c11b0:decide (x10_1 < ((rd_L1 l0_1 a1).length:Int)) = true:=decide_eq_true c11
         clear c11
         have H':=Aside0.mk H
         clear H
         have p400:0 ≤ (x10_1:Int):=of_decide_eq_true (by assumption)
         have q400:x10_1 < (l2.length:Int):=of_decide_eq_true (by assumption)
         obtain ⟨ad400,e400,hx400_0⟩:=Kd.at_int HR2.out x10_1 p400 q400
         cases e400
         replace hx400_0:=(HB.out.cell (World.block_lt_of_cell? w _ hx400_0)).trans hx400_0
         replace p400:=eq_true p400
         replace q400:=eq_true q400
         have hcz12_0:wr.cell? ⟨gb399,0,none⟩ = some (.slice A0_0 l0_0.length c0_0):=(blk_cell BK399.out 0).trans rfl
         have hcz12_1:wr.cell? ⟨gb399,1,none⟩ = some (.slice A0_1 l0_1.length c0_1):=(blk_cell BK399.out 1).trans rfl
         have hfz12_0:=blk_frozen BK399.out 0
         have hfz12_1:=blk_frozen BK399.out 1
         have p401:0 ≤ (a1:Int):=of_decide_eq_true (by assumption)
         have q401:a1 < (l0_1.length:Int):=of_decide_eq_true (by assumption)
         obtain ⟨ad401,A401_0,c401_0,e401,hx401_0,hl401_0,hi401_0⟩:=at_L1 HR0_1.out a1 p401 q401
         cases e401
         replace hx401_0:=(HB.out.cell (World.block_lt_of_cell? w _ hx401_0)).trans hx401_0
         have HR401_0:=Aside0.mk hi401_0
         have HC401_0:=Aside0.mk hl401_0
         clear hi401_0 hl401_0
         replace p401:=eq_true p401
         replace q401:=eq_true q401
         have p402:0 ≤ (x10_1:Int):=of_decide_eq_true (by assumption)
         have q402:x10_1 < ((rd_L1 l0_1 a1).length:Int):=of_decide_eq_true (by assumption)
         obtain ⟨ad402,e402,hx402_0⟩:=Kd.at_int HR401_0.out x10_1 p402 q402
         cases e402
         replace hx402_0:=(HB.out.cell (World.block_lt_of_cell? w _ hx402_0)).trans hx402_0
         replace p402:=eq_true p402
         replace q402:=eq_true q402
         go_wp2
         go_roundg k1
         case measure=>have:=HK1.out;omega
         case rel=>exact ⟨(wrap64 (x9_1 + (rd (rd_L1 l0_1 a1) x10_1))),(wrap64 (x10_1 + 1)),(by first | rfl | (simp;done) | (simp [*];done)),(by first | rfl | (simp;done) | (simp [*];done)),H',⟨by have:=HK1.out;omega⟩,⟨by exact BK399.out⟩,⟨by exact HB.out⟩⟩
        ·rw [if_neg c11] at H
         exact absurd H (by simp)
       ·rw [if_neg c10] at H
        exact absurd H (by simp)
      ·rw [if_neg c9] at H
       exact absurd H (by simp)
     ·rw [if_neg c8] at H
      have c8b0:((rd l2 x10_1) == a3) = false:=beq_eq_false_iff_ne.mpr c8
      have c8b1:((rd l2 x10_1) != a3) = true:=bne_iff_ne.mpr c8
      have H':=Aside0.mk H
      clear H
      have p400:0 ≤ (x10_1:Int):=of_decide_eq_true (by assumption)
      have q400:x10_1 < (l2.length:Int):=of_decide_eq_true (by assumption)
      obtain ⟨ad400,e400,hx400_0⟩:=Kd.at_int HR2.out x10_1 p400 q400
      cases e400
      replace hx400_0:=(HB.out.cell (World.block_lt_of_cell? w _ hx400_0)).trans hx400_0
      replace p400:=eq_true p400
      replace q400:=eq_true q400
      go_wp2
      go_roundg k1
      case measure=>have:=HK1.out;omega
      case rel=>exact ⟨(x9_1),(wrap64 (x10_1 + 1)),(by first | rfl | (simp;done) | (simp [*];done)),(by first | rfl | (simp;done) | (simp [*];done)),H',⟨by have:=HK1.out;omega⟩,⟨by exact BK399.out⟩,⟨by exact HB.out⟩⟩
    ·rw [if_neg c7] at H
     exact absurd H (by simp)
   ·rw [if_neg c6] at H
    have c6b0:decide (x10_1 < (l2.length:Int)) = false:=decide_eq_false c6
    clear c6
    obtain rfl:=Option.some.inj H
    go_wp2
    go_ret
    exact ⟨rfl,by exact HB.out⟩
def spec_l18Alike.l0:Nat → Int → Int → List Int → Int → List Int → List (List Int) → Option (Bool)
 | 0,_,_,_,_,_,_=>none
 | k + 1,x1,x2,x3,x9,x404000,x404001=>if x9 < (x3.length:Int) then (if 0 ≤ x9 then (if (rd x3 x9) = x9 then ((spec_l18Into.f k x404000 x404001 x1 x3 x9).bind fun t405=>((spec_l18Into.f k x404000 x404001 x2 x3 x9).bind fun t406=>(if t405 = t406 then (spec_l18Alike.l0 k x1 x2 x3 (wrap64 (x9 + 1)) x404000 x404001) else (some false)))) else (spec_l18Alike.l0 k x1 x2 x3 (wrap64 (x9 + 1)) x404000 x404001)) else (none)) else (some true)
def spec_l18Alike.f (k:Nat) (l0_0:List Int) (l0_1:List (List Int)) (a1:Int) (a2:Int) (l3:List Int):Option (Bool):=spec_l18Alike.l0 k a1 a2 l3 0 l0_0 l0_1
theorem spec_l18Alike.mono_l:∀ k,(∀ y0 y1 y2 y3 y4 y5,LeO (spec_l18Alike.l0 k y0 y1 y2 y3 y4 y5) (spec_l18Alike.l0 (k + 1) y0 y1 y2 y3 y4 y5))
 | 0=>fun _ _ _ _ _ _ r h=>by simp [spec_l18Alike.l0] at h
 | k + 1=>by
  have ih0:=spec_l18Alike.mono_l k
  ·intro y0 y1 y2 y3 y4 y5
   unfold spec_l18Alike.l0
   repeat' first
   | (with_reducible exact ih0 _ _ _ _ _ _)
   | (with_reducible exact spec_l18Into.mono _ _ _ _ _ _)
   | (with_reducible exact LeO.refl _)
   | (with_reducible exact LeO.none _)
   | (with_reducible refine LeO.ite ?_ ?_)
   | (with_reducible refine LeO.bind ?_ (fun _=>?_))
   | exact ih0 _ _ _ _ _ _
   | exact spec_l18Into.mono _ _ _ _ _ _
   | exact LeO.none _
   | refine LeO.ite ?_ ?_
   | refine LeO.bind ?_ (fun _=>?_)
theorem spec_l18Alike.mono:∀ a0 a1 a2 a3 a4 k,LeO (spec_l18Alike.f k a0 a1 a2 a3 a4) (spec_l18Alike.f (k + 1) a0 a1 a2 a3 a4):=by
 intro a0 a1 a2 a3 a4 k
 have ih0:=spec_l18Alike.mono_l k
 unfold spec_l18Alike.f
 repeat' first
   | (with_reducible exact ih0 _ _ _ _ _ _)
   | (with_reducible exact spec_l18Into.mono _ _ _ _ _ _)
   | (with_reducible exact LeO.refl _)
   | (with_reducible exact LeO.none _)
   | (with_reducible refine LeO.ite ?_ ?_)
   | (with_reducible refine LeO.bind ?_ (fun _=>?_))
   | exact ih0 _ _ _ _ _ _
   | exact spec_l18Into.mono _ _ _ _ _ _
   | exact LeO.none _
   | refine LeO.ite ?_ ?_
   | refine LeO.bind ?_ (fun _=>?_)
def spec_l18Alike.T4:Bool × List (List Nat × List Nat):=(true,[([],[]),([],[]),([0,1],[0,1]),([2],[2]),([],[]),([3,4],[3,4]),([5],[5]),([6],[6]),([6],[6]),([6],[6]),([6],[6]),([7,8,9,10,6,6],[6,7,8,9,10]),([6],[6]),([6],[6]),([6],[6]),([6],[6]),([12,13,14,15,11,6],[6,12,13,14,15]),([11,16,6],[6,11,16]),([6,17],[6,17])])
def spec_l18Alike.B4:List Nat:=[0,0,3,7,0,31,63,127,127,127,127,2047,127,127,127,127,65535,131071,262143]
theorem spec_l18Alike.tab4:rtab .any (opsOf Try.f64 4) = spec_l18Alike.T4:=by kernel_rfl
theorem spec_l18Alike.bits4:waitsOk spec_l18Alike.T4.2 spec_l18Alike.B4 = true:=by kernel_rfl
set_option maxHeartbeats 8000000 in
set_option maxRecDepth 100000 in
theorem spec_l18Alike.calls (k:Nat) (A0_0:Option Addr) (c0_0:Nat) (l0_0:List Int) (A0_1:Option Addr) (c0_1:Nat) (l0_1:List (List Int)) (a1:Int) (a2:Int) (A3:Option Addr) (c3:Nat) (l3:List Int) (r:Bool) (w:World) (hr0_0:Kd.C (Kd.int .i64) w A0_0 l0_0.length l0_0) (hc0_0:l0_0.length ≤ c0_0) (hr0_1:Kd.C (Kd.slice 3 (Kd.int .i64)) w A0_1 l0_1.length l0_1) (hc0_1:l0_1.length ≤ c0_1) (hr3:Kd.C (Kd.int .i64) w A3 l3.length l3) (hc3:l3.length ≤ c3) (h:spec_l18Alike.f k l0_0 l0_1 a1 a2 l3 = some r) :
  Calls Try.prog 64 #[.agg #[.slice A0_0 l0_0.length c0_0,.slice A0_1 l0_1.length c0_1],.int .i64 a1,.int .i64 a2,.slice A3 l3.length c3] w fun e w'=>e = .returned (.bool r)∧Below w.heap.size w w':=by
 have hu28:=Try.underlying28
 have HR0_0:=Aside0.mk hr0_0
 have HC0_0:=Aside0.mk hc0_0
 clear hr0_0 hc0_0
 have HR0_1:=Aside0.mk hr0_1
 have HC0_1:=Aside0.mk hc0_1
 clear hr0_1 hc0_1
 have HR3:=Aside0.mk hr3
 have HC3:=Aside0.mk hc3
 clear hr3 hc3
 have HB:=Aside0.mk (Below.refl w.heap.size w)
 have H:(spec_l18Alike.l0 k a1 a2 l3 0 l0_0 l0_1) = some r:=h
 clear h
 have H':=Aside0.mk H
 clear H
 go_enter Try.func64,Try.ntmps64
 go_wp2_with (first | ((with_reducible refine gate_dst (N:=4) rfl ?_);refine box_event ?hg (N:=4) ?hd (cs:=#[.slice A0_0 l0_0.length c0_0,.slice A0_1 l0_1.length c0_1]) (t:=28) ?hr ?_;(case hd=>rfl);(case hg=>rfl);(case hr=>first | (go_simp;done) | (go_simp;rfl));intro gb403 hg w5 hbox hb;have n0_:=Aside0.mk (below_step (by exact HB.out) hb);have n1_:=Aside0.mk (hbox);have n2_:=Aside0.mk ((by rw [hg];exact (below_size (by exact HB.out)):w.heap.size ≤ gb403));have n3_:=Aside0.mk ((by rw [hg];exact (below_size (by exact HB.out)):w.heap.size ≤ gb403));clear HB;have HB:=n0_;have BK403:=n1_;have GW403:=n2_;have GE403:=n3_;clear n0_ n1_ n2_ n3_;clear hb hbox hg))
 go_loopg [9] k (fun kq v9 w'=>∃ (x9_1:Int),v9 = .int .i64 x9_1∧Aside0 (spec_l18Alike.l0 kq a1 a2 l3 x9_1 l0_0 l0_1 = some r)∧Aside0 (kq ≤ k)∧Aside0 (w'.heap[gb403]? = some (.cells #[(.slice A0_0 l0_0.length c0_0),(.slice A0_1 l0_1.length c0_1)] 28 (0,0)))∧Aside0 (Below w.heap.size w w'))
 case atStart=>exact ⟨(0),(by first | rfl | (simp;done) | (simp [*];done)),H',⟨Nat.le_refl _⟩,⟨by exact BK403.out⟩,⟨by exact HB.out⟩⟩
 case round =>
  clear H'
  try clear p2
  try clear c3
  obtain ⟨x9_1,rfl,HA,HK1,BK403,HB⟩:=hrel
  cases gk with
  | zero=>exact absurd HA.out (by simp [spec_l18Alike.l0])
  | succ k1 =>
   have H:=HA.out
   clear HA
   simp only [spec_l18Alike.l0] at H
   by_cases c6:x9_1 < (l3.length:Int)
   ·rw [if_pos c6] at H
    have c6b0:decide (x9_1 < (l3.length:Int)) = true:=decide_eq_true c6
    clear c6
    by_cases c7:0 ≤ x9_1
    ·rw [if_pos c7] at H
     have c7b0:decide (0 ≤ x9_1) = true:=decide_eq_true c7
     clear c7
     by_cases c8:(rd l3 x9_1) = x9_1
     ·rw [if_pos c8] at H
      have c8b0:((rd l3 x9_1) == x9_1) = true:=beq_iff_eq.mpr c8
      have c8b1:((rd l3 x9_1) != x9_1) = false:=bne_eq_false_iff_eq.mpr c8
      clear c8
      replace H:=Option.bind_eq_some_iff.mp H
      obtain ⟨t405,A90,H⟩:=H
      replace H:((spec_l18Into.f k1 l0_0 l0_1 a2 l3 x9_1).bind fun t406=>(if t405 = t406 then (spec_l18Alike.l0 k1 a1 a2 l3 (wrap64 (x9_1 + 1)) l0_0 l0_1) else (some false))) = some r:=H
      have A9:=Aside0.mk A90
      clear A90
      replace H:=Option.bind_eq_some_iff.mp H
      obtain ⟨t406,A100,H⟩:=H
      replace H:(if t405 = t406 then (spec_l18Alike.l0 k1 a1 a2 l3 (wrap64 (x9_1 + 1)) l0_0 l0_1) else (some false)) = some r:=H
      have A10:=Aside0.mk A100
      clear A100
      by_cases c11:t405 = t406
      ·rw [if_pos c11] at H
       have c11b0:(t405 == t406) = true:=beq_iff_eq.mpr c11
       have c11b1:(t405 != t406) = false:=bne_eq_false_iff_eq.mpr c11
       clear c11
       have H':=Aside0.mk H
       clear H
       try go_wp2
       have n0_:=Aside0.mk (blk_drew BK403.out)
       have n1_:=Aside0.mk (below_drew1 HB.out)
       clear BK403
       clear HB
       have BK403:=n0_
       have HB:=n1_
       clear n0_ n1_
       have p404:0 ≤ (x9_1:Int):=of_decide_eq_true (by assumption)
       have q404:x9_1 < (l3.length:Int):=of_decide_eq_true (by assumption)
       obtain ⟨ad404,e404,hx404_0⟩:=Kd.at_int HR3.out x9_1 p404 q404
       have hw404_0:=hx404_0
       cases e404
       replace hx404_0:=(HB.out.cell (World.block_lt_of_cell? w _ hx404_0)).trans hx404_0
       replace p404:=eq_true p404
       replace q404:=eq_true q404
       refine start_ (n:=19) (S:=fun w'=>w'.cell? ⟨gb403,0,none⟩ = some (.slice A0_0 l0_0.length c0_0)∧w'.cell? ⟨gb403,1,none⟩ = some (.slice A0_1 l0_1.length c0_1)∧w'.cell? (ad404.add (x9_1).toNat) = some (.int .i64 (rd l3 x9_1))) (ds:=[]) #[false,false,false,false,false,false,false,false,false,false,false,false,false,false,false,false,false,false,false] (by kernel_rfl) rfl rfl ⟨(blk_cell BK403.out 0).trans rfl,(blk_cell BK403.out 1).trans rfl,((HB.out.cell (World.block_lt_of_cell? w _ hw404_0)).trans hw404_0)⟩ (fun hHeld=>?_);refine with_tabW spec_l18Alike.tab4 spec_l18Alike.bits4 (fun HT_ HW_=>?_)
       generalize wr.drew = w12 at BK403 HB hx404_0 hHeld ⊢
       refine pure_ (i:=0) (N:=some 16) (v:=?_) (a':=?_) #[true,false,false,false,false,false,false,false,false,false,false,false,false,false,false,false,false,false,false] rfl rfl (any_of HT_.out (by kernel_rfl)) (fun _ _ _ h=>h) (Or.inl ⟨by rfl,?_⟩) ?_ ?_
       rotate_left;·intro w';go_simp;with_reducible rfl
       rotate_left;·simp only [Act.put,List.setIfInBounds_toArray,List.set_cons_zero,List.set_cons_succ,i64_w,i32_w];rfl
       refine pure_ (i:=1) (N:=some 17) (v:=?_) (a':=?_) #[true,true,false,false,false,false,false,false,false,false,false,false,false,false,false,false,false,false,false] rfl rfl (any_of HT_.out (by kernel_rfl)) (fun _ _ _ h=>h) (Or.inl ⟨by rfl,?_⟩) ?_ ?_
       rotate_left;·intro w';go_simp;with_reducible rfl
       rotate_left;·simp only [Act.put,List.setIfInBounds_toArray,List.set_cons_zero,List.set_cons_succ,i64_w,i32_w];rfl
       refine pure_ (i:=2) (N:=some 18) (v:=?_) (a':=?_) #[true,true,true,false,false,false,false,false,false,false,false,false,false,false,false,false,false,false,false] rfl rfl (any_of HT_.out (by kernel_rfl)) (fun _ _ _ h=>h) (Or.inl ⟨by rfl,?_⟩) ?_ ?_
       rotate_left;·intro w';go_simp;with_reducible rfl
       rotate_left;·simp only [Act.put,List.setIfInBounds_toArray,List.set_cons_zero,List.set_cons_succ,i64_w,i32_w];rfl
       refine pure_ (i:=4) (N:=some 20) (v:=?_) (a':=?_) #[true,true,true,false,true,false,false,false,false,false,false,false,false,false,false,false,false,false,false] rfl rfl (any_of HT_.out (by kernel_rfl)) (fun _ _ _ h=>h) (Or.inl ⟨by rfl,?_⟩) ?_ ?_
       rotate_left;·intro w';go_simp;with_reducible rfl
       rotate_left;·simp only [Act.put,List.setIfInBounds_toArray,List.set_cons_zero,List.set_cons_succ,i64_w,i32_w];rfl
       refine take_ (i:=3) (N:=some 19) (v:=?_) (a':=?_) #[true,true,true,true,true,false,false,false,false,false,false,false,false,false,false,false,false,false,false] rfl rfl (take_ofW HT_.out HW_.out (by kernel_rfl)) (fun _ _ _ h=>h) (Or.inl ⟨by rfl,?_⟩) hHeld ?_ ?_
       rotate_left;·rintro w' ⟨s0,s1,s2⟩;go_simp;with_reducible rfl
       rotate_left;·simp only [Act.put,List.setIfInBounds_toArray,List.set_cons_zero,List.set_cons_succ,i64_w,i32_w];rfl
       refine pure_ (i:=5) (N:=some 21) (v:=?_) (a':=?_) #[true,true,true,true,true,true,false,false,false,false,false,false,false,false,false,false,false,false,false] rfl rfl (any_of HT_.out (by kernel_rfl)) (fun _ _ _ h=>h) (Or.inl ⟨by rfl,?_⟩) ?_ ?_
       rotate_left;·intro w';go_simp;with_reducible rfl
       rotate_left;·simp only [Act.put,List.setIfInBounds_toArray,List.set_cons_zero,List.set_cons_succ,i64_w,i32_w];rfl
       refine pure_ (i:=6) (N:=some 22) (v:=?_) (a':=?_) #[true,true,true,true,true,true,true,false,false,false,false,false,false,false,false,false,false,false,false] rfl rfl (any_of HT_.out (by kernel_rfl)) (fun _ _ _ h=>h) (Or.inl ⟨by rfl,?_⟩) ?_ ?_
       rotate_left;·intro w';go_simp;with_reducible rfl
       rotate_left;·simp only [Act.put,List.setIfInBounds_toArray,List.set_cons_zero,List.set_cons_succ,i64_w,i32_w];rfl
       refine pure_ (i:=8) (N:=some 24) (v:=?_) (a':=?_) #[true,true,true,true,true,true,true,false,true,false,false,false,false,false,false,false,false,false,false] rfl rfl (any_of HT_.out (by kernel_rfl)) (fun _ _ _ h=>h) (Or.inl ⟨by rfl,?_⟩) ?_ ?_
       rotate_left;·intro w';go_simp;with_reducible rfl
       rotate_left;·simp only [Act.put,List.setIfInBounds_toArray,List.set_cons_zero,List.set_cons_succ,i64_w,i32_w];rfl
       refine pure_ (i:=9) (N:=some 25) (v:=?_) (a':=?_) #[true,true,true,true,true,true,true,false,true,true,false,false,false,false,false,false,false,false,false] rfl rfl (any_of HT_.out (by kernel_rfl)) (fun _ _ _ h=>h) (Or.inl ⟨by rfl,?_⟩) ?_ ?_
       rotate_left;·intro w';go_simp;with_reducible rfl
       rotate_left;·simp only [Act.put,List.setIfInBounds_toArray,List.set_cons_zero,List.set_cons_succ,i64_w,i32_w];rfl
       refine pure_ (i:=10) (N:=some 26) (v:=?_) (a':=?_) #[true,true,true,true,true,true,true,false,true,true,true,false,false,false,false,false,false,false,false] rfl rfl (any_of HT_.out (by kernel_rfl)) (fun _ _ _ h=>h) (Or.inl ⟨by rfl,?_⟩) ?_ ?_
       rotate_left;·intro w';go_simp;with_reducible rfl
       rotate_left;·simp only [Act.put,List.setIfInBounds_toArray,List.set_cons_zero,List.set_cons_succ,i64_w,i32_w];rfl
       refine pure_ (i:=13) (N:=some 29) (v:=?_) (a':=?_) #[true,true,true,true,true,true,true,false,true,true,true,false,false,true,false,false,false,false,false] rfl rfl (any_of HT_.out (by kernel_rfl)) (fun _ _ _ h=>h) (Or.inl ⟨by rfl,?_⟩) ?_ ?_
       rotate_left;·intro w';go_simp;with_reducible rfl
       rotate_left;·simp only [Act.put,List.setIfInBounds_toArray,List.set_cons_zero,List.set_cons_succ,i64_w,i32_w];rfl
       refine pure_ (i:=14) (N:=some 30) (v:=?_) (a':=?_) #[true,true,true,true,true,true,true,false,true,true,true,false,false,true,true,false,false,false,false] rfl rfl (any_of HT_.out (by kernel_rfl)) (fun _ _ _ h=>h) (Or.inl ⟨by rfl,?_⟩) ?_ ?_
       rotate_left;·intro w';go_simp;with_reducible rfl
       rotate_left;·simp only [Act.put,List.setIfInBounds_toArray,List.set_cons_zero,List.set_cons_succ,i64_w,i32_w];rfl
       refine pure_ (i:=15) (N:=some 31) (v:=?_) (a':=?_) #[true,true,true,true,true,true,true,false,true,true,true,false,false,true,true,true,false,false,false] rfl rfl (any_of HT_.out (by kernel_rfl)) (fun _ _ _ h=>h) (Or.inl ⟨by rfl,?_⟩) ?_ ?_
       rotate_left;·intro w';go_simp;with_reducible rfl
       rotate_left;·simp only [Act.put,List.setIfInBounds_toArray,List.set_cons_zero,List.set_cons_succ,i64_w,i32_w];rfl
       refine take_ (i:=7) (N:=some 23) (v:=?_) (a':=?_) #[true,true,true,true,true,true,true,true,true,true,true,false,false,true,true,true,false,false,false] rfl rfl (take_ofW HT_.out HW_.out (by kernel_rfl)) (fun _ _ _ h=>h) (Or.inl ⟨by rfl,?_⟩) hHeld ?_ ?_
       rotate_left;·rintro w' ⟨s0,s1,s2⟩;go_simp;with_reducible rfl
       rotate_left;·simp only [Act.put,List.setIfInBounds_toArray,List.set_cons_zero,List.set_cons_succ,i64_w,i32_w];rfl
       refine take_ (i:=12) (N:=some 28) (v:=?_) (a':=?_) #[true,true,true,true,true,true,true,true,true,true,true,false,true,true,true,true,false,false,false] rfl rfl (take_ofW HT_.out HW_.out (by kernel_rfl)) (fun _ _ _ h=>h) (Or.inl ⟨by rfl,?_⟩) hHeld ?_ ?_
       rotate_left;·rintro w' ⟨s0,s1,s2⟩;go_simp;with_reducible rfl
       rotate_left;·simp only [Act.put,List.setIfInBounds_toArray,List.set_cons_zero,List.set_cons_succ,i64_w,i32_w];rfl
       refine one_ (i:=11) (N:=some 27) #[true,true,true,true,true,true,true,true,true,true,true,true,true,true,true,true,false,false,false] rfl rfl (one_of HT_.out (by kernel_rfl)) (by decide) (fun K hK=>?_)
       refine goes_ Try.func57 (by kernel_rfl) rfl #[.agg #[.slice A0_0 l0_0.length c0_0,.slice A0_1 l0_1.length c0_1],.int .i64 a1,.slice (some ad404) l3.length c3,.int .i64 x9_1] (by rfl) rfl rfl (by (try simp only [List.map_toArray,List.map_cons,List.map_nil]);first | done | rfl | (simp only [List.length_drop,List.length_take];rfl)) ?_
       with_reducible refine (spec_l18Into.calls k1 _ _ l0_0 _ _ l0_1 a1 _ _ l3 x9_1 t405 _ ?side1 ?side2 ?side3 ?side4 ?side5 ?side6 A9.out).mono ?_
       (case side1=>exact (Kd.C_below HR0_0.out HB.out))
       (case side2=>exact HC0_0.out)
       (case side3=>exact (Kd.C_below HR0_1.out HB.out))
       (case side4=>exact HC0_1.out)
       (case side5=>exact (Kd.C_below HR3.out HB.out))
       (case side6=>exact HC3.out)
       rintro e w13 ⟨rfl,hb⟩
       refine ⟨_,rfl,?_⟩
       have n0_:=Aside0.mk (blk_below (g:=gb403) (o:=.cells #[.slice A0_0 l0_0.length c0_0,.slice A0_1 l0_1.length c0_1] 28 (0,0)) (by exact BK403.out) hb)
       have n1_:=Aside0.mk (below_step (by exact HB.out) hb)
       clear BK403
       clear HB
       have BK403:=n0_
       have HB:=n1_
       clear n0_ n1_
       (try clear hb)
       (try clear hb2)
       (try clear hk)
       (try clear hi)
       refine hK.out _ _ ⟨(blk_cell BK403.out 0).trans rfl,(blk_cell BK403.out 1).trans rfl,((HB.out.cell (World.block_lt_of_cell? w _ hw404_0)).trans hw404_0)⟩ (fun hHeld=>?_)
       clear hK K
       refine norm_ (a':=?_) ?_ ?_
       rotate_left
       ·show Act.put _ (some 27) _ = _
        simp only [Act.put,List.setIfInBounds_toArray,List.set_cons_zero,List.set_cons_succ,i64_w,i32_w]
        rfl
       refine one_ (i:=16) (N:=some 32) #[true,true,true,true,true,true,true,true,true,true,true,true,true,true,true,true,true,false,false] rfl rfl (one_of HT_.out (by kernel_rfl)) (by decide) (fun K hK=>?_)
       refine goes_ Try.func57 (by kernel_rfl) rfl #[.agg #[.slice A0_0 l0_0.length c0_0,.slice A0_1 l0_1.length c0_1],.int .i64 a2,.slice (some ad404) l3.length c3,.int .i64 x9_1] (by rfl) rfl rfl (by (try simp only [List.map_toArray,List.map_cons,List.map_nil]);first | done | rfl | (simp only [List.length_drop,List.length_take];rfl)) ?_
       with_reducible refine (spec_l18Into.calls k1 _ _ l0_0 _ _ l0_1 a2 _ _ l3 x9_1 t406 _ ?side1 ?side2 ?side3 ?side4 ?side5 ?side6 A10.out).mono ?_
       (case side1=>exact (Kd.C_below HR0_0.out HB.out))
       (case side2=>exact HC0_0.out)
       (case side3=>exact (Kd.C_below HR0_1.out HB.out))
       (case side4=>exact HC0_1.out)
       (case side5=>exact (Kd.C_below HR3.out HB.out))
       (case side6=>exact HC3.out)
       rintro e w14 ⟨rfl,hb⟩
       refine ⟨_,rfl,?_⟩
       have n0_:=Aside0.mk (blk_below (g:=gb403) (o:=.cells #[.slice A0_0 l0_0.length c0_0,.slice A0_1 l0_1.length c0_1] 28 (0,0)) (by exact BK403.out) hb)
       have n1_:=Aside0.mk (below_step (by exact HB.out) hb)
       clear BK403
       clear HB
       have BK403:=n0_
       have HB:=n1_
       clear n0_ n1_
       (try clear hb)
       (try clear hb2)
       (try clear hk)
       (try clear hi)
       refine hK.out _ _ ⟨(blk_cell BK403.out 0).trans rfl,(blk_cell BK403.out 1).trans rfl,((HB.out.cell (World.block_lt_of_cell? w _ hw404_0)).trans hw404_0)⟩ (fun hHeld=>?_)
       clear hK K
       refine norm_ (a':=?_) ?_ ?_
       rotate_left
       ·show Act.put _ (some 32) _ = _
        simp only [Act.put,List.setIfInBounds_toArray,List.set_cons_zero,List.set_cons_succ,i64_w,i32_w]
        rfl
       refine pure_ (i:=17) (N:=some 33) (v:=?_) (a':=?_) #[true,true,true,true,true,true,true,true,true,true,true,true,true,true,true,true,true,true,false] rfl rfl (any_of HT_.out (by kernel_rfl)) (fun _ _ _ h=>h) (Or.inl ⟨by rfl,?_⟩) ?_ ?_
       rotate_left;·intro w';go_simp;with_reducible rfl
       rotate_left;·simp only [Act.put,List.setIfInBounds_toArray,List.set_cons_zero,List.set_cons_succ,i64_w,i32_w];rfl
       refine pure_ (i:=18) (N:=some 34) (v:=?_) (a':=?_) #[true,true,true,true,true,true,true,true,true,true,true,true,true,true,true,true,true,true,true] rfl rfl (any_of HT_.out (by kernel_rfl)) (fun _ _ _ h=>h) (Or.inl ⟨by rfl,?_⟩) ?_ ?_
       rotate_left;·intro w';go_simp;with_reducible rfl
       rotate_left;·simp only [Act.put,List.setIfInBounds_toArray,List.set_cons_zero,List.set_cons_succ,i64_w,i32_w];rfl
       refine done_ (done_of HT_.out (by kernel_rfl)) ?_
       try go_wp2
       go_roundg k1
       case measure=>have:=HK1.out;omega
       case rel=>exact ⟨(wrap64 (x9_1 + 1)),(by first | rfl | (simp;done) | (simp [*];done)),H',⟨by have:=HK1.out;omega⟩,⟨by exact BK403.out⟩,⟨by exact HB.out⟩⟩
      ·rw [if_neg c11] at H
       have c11b0:(t405 == t406) = false:=beq_eq_false_iff_ne.mpr c11
       have c11b1:(t405 != t406) = true:=bne_iff_ne.mpr c11
       obtain rfl:=Option.some.inj H
       try go_wp2
       have n0_:=Aside0.mk (blk_drew BK403.out)
       have n1_:=Aside0.mk (below_drew1 HB.out)
       clear BK403
       clear HB
       have BK403:=n0_
       have HB:=n1_
       clear n0_ n1_
       have p404:0 ≤ (x9_1:Int):=of_decide_eq_true (by assumption)
       have q404:x9_1 < (l3.length:Int):=of_decide_eq_true (by assumption)
       obtain ⟨ad404,e404,hx404_0⟩:=Kd.at_int HR3.out x9_1 p404 q404
       have hw404_0:=hx404_0
       cases e404
       replace hx404_0:=(HB.out.cell (World.block_lt_of_cell? w _ hx404_0)).trans hx404_0
       replace p404:=eq_true p404
       replace q404:=eq_true q404
       refine start_ (n:=19) (S:=fun w'=>w'.cell? ⟨gb403,0,none⟩ = some (.slice A0_0 l0_0.length c0_0)∧w'.cell? ⟨gb403,1,none⟩ = some (.slice A0_1 l0_1.length c0_1)∧w'.cell? (ad404.add (x9_1).toNat) = some (.int .i64 (rd l3 x9_1))) (ds:=[]) #[false,false,false,false,false,false,false,false,false,false,false,false,false,false,false,false,false,false,false] (by kernel_rfl) rfl rfl ⟨(blk_cell BK403.out 0).trans rfl,(blk_cell BK403.out 1).trans rfl,((HB.out.cell (World.block_lt_of_cell? w _ hw404_0)).trans hw404_0)⟩ (fun hHeld=>?_);refine with_tabW spec_l18Alike.tab4 spec_l18Alike.bits4 (fun HT_ HW_=>?_)
       generalize wr.drew = w15 at BK403 HB hx404_0 hHeld ⊢
       refine pure_ (i:=0) (N:=some 16) (v:=?_) (a':=?_) #[true,false,false,false,false,false,false,false,false,false,false,false,false,false,false,false,false,false,false] rfl rfl (any_of HT_.out (by kernel_rfl)) (fun _ _ _ h=>h) (Or.inl ⟨by rfl,?_⟩) ?_ ?_
       rotate_left;·intro w';go_simp;with_reducible rfl
       rotate_left;·simp only [Act.put,List.setIfInBounds_toArray,List.set_cons_zero,List.set_cons_succ,i64_w,i32_w];rfl
       refine pure_ (i:=1) (N:=some 17) (v:=?_) (a':=?_) #[true,true,false,false,false,false,false,false,false,false,false,false,false,false,false,false,false,false,false] rfl rfl (any_of HT_.out (by kernel_rfl)) (fun _ _ _ h=>h) (Or.inl ⟨by rfl,?_⟩) ?_ ?_
       rotate_left;·intro w';go_simp;with_reducible rfl
       rotate_left;·simp only [Act.put,List.setIfInBounds_toArray,List.set_cons_zero,List.set_cons_succ,i64_w,i32_w];rfl
       refine pure_ (i:=2) (N:=some 18) (v:=?_) (a':=?_) #[true,true,true,false,false,false,false,false,false,false,false,false,false,false,false,false,false,false,false] rfl rfl (any_of HT_.out (by kernel_rfl)) (fun _ _ _ h=>h) (Or.inl ⟨by rfl,?_⟩) ?_ ?_
       rotate_left;·intro w';go_simp;with_reducible rfl
       rotate_left;·simp only [Act.put,List.setIfInBounds_toArray,List.set_cons_zero,List.set_cons_succ,i64_w,i32_w];rfl
       refine pure_ (i:=4) (N:=some 20) (v:=?_) (a':=?_) #[true,true,true,false,true,false,false,false,false,false,false,false,false,false,false,false,false,false,false] rfl rfl (any_of HT_.out (by kernel_rfl)) (fun _ _ _ h=>h) (Or.inl ⟨by rfl,?_⟩) ?_ ?_
       rotate_left;·intro w';go_simp;with_reducible rfl
       rotate_left;·simp only [Act.put,List.setIfInBounds_toArray,List.set_cons_zero,List.set_cons_succ,i64_w,i32_w];rfl
       refine take_ (i:=3) (N:=some 19) (v:=?_) (a':=?_) #[true,true,true,true,true,false,false,false,false,false,false,false,false,false,false,false,false,false,false] rfl rfl (take_ofW HT_.out HW_.out (by kernel_rfl)) (fun _ _ _ h=>h) (Or.inl ⟨by rfl,?_⟩) hHeld ?_ ?_
       rotate_left;·rintro w' ⟨s0,s1,s2⟩;go_simp;with_reducible rfl
       rotate_left;·simp only [Act.put,List.setIfInBounds_toArray,List.set_cons_zero,List.set_cons_succ,i64_w,i32_w];rfl
       refine pure_ (i:=5) (N:=some 21) (v:=?_) (a':=?_) #[true,true,true,true,true,true,false,false,false,false,false,false,false,false,false,false,false,false,false] rfl rfl (any_of HT_.out (by kernel_rfl)) (fun _ _ _ h=>h) (Or.inl ⟨by rfl,?_⟩) ?_ ?_
       rotate_left;·intro w';go_simp;with_reducible rfl
       rotate_left;·simp only [Act.put,List.setIfInBounds_toArray,List.set_cons_zero,List.set_cons_succ,i64_w,i32_w];rfl
       refine pure_ (i:=6) (N:=some 22) (v:=?_) (a':=?_) #[true,true,true,true,true,true,true,false,false,false,false,false,false,false,false,false,false,false,false] rfl rfl (any_of HT_.out (by kernel_rfl)) (fun _ _ _ h=>h) (Or.inl ⟨by rfl,?_⟩) ?_ ?_
       rotate_left;·intro w';go_simp;with_reducible rfl
       rotate_left;·simp only [Act.put,List.setIfInBounds_toArray,List.set_cons_zero,List.set_cons_succ,i64_w,i32_w];rfl
       refine pure_ (i:=8) (N:=some 24) (v:=?_) (a':=?_) #[true,true,true,true,true,true,true,false,true,false,false,false,false,false,false,false,false,false,false] rfl rfl (any_of HT_.out (by kernel_rfl)) (fun _ _ _ h=>h) (Or.inl ⟨by rfl,?_⟩) ?_ ?_
       rotate_left;·intro w';go_simp;with_reducible rfl
       rotate_left;·simp only [Act.put,List.setIfInBounds_toArray,List.set_cons_zero,List.set_cons_succ,i64_w,i32_w];rfl
       refine pure_ (i:=9) (N:=some 25) (v:=?_) (a':=?_) #[true,true,true,true,true,true,true,false,true,true,false,false,false,false,false,false,false,false,false] rfl rfl (any_of HT_.out (by kernel_rfl)) (fun _ _ _ h=>h) (Or.inl ⟨by rfl,?_⟩) ?_ ?_
       rotate_left;·intro w';go_simp;with_reducible rfl
       rotate_left;·simp only [Act.put,List.setIfInBounds_toArray,List.set_cons_zero,List.set_cons_succ,i64_w,i32_w];rfl
       refine pure_ (i:=10) (N:=some 26) (v:=?_) (a':=?_) #[true,true,true,true,true,true,true,false,true,true,true,false,false,false,false,false,false,false,false] rfl rfl (any_of HT_.out (by kernel_rfl)) (fun _ _ _ h=>h) (Or.inl ⟨by rfl,?_⟩) ?_ ?_
       rotate_left;·intro w';go_simp;with_reducible rfl
       rotate_left;·simp only [Act.put,List.setIfInBounds_toArray,List.set_cons_zero,List.set_cons_succ,i64_w,i32_w];rfl
       refine pure_ (i:=13) (N:=some 29) (v:=?_) (a':=?_) #[true,true,true,true,true,true,true,false,true,true,true,false,false,true,false,false,false,false,false] rfl rfl (any_of HT_.out (by kernel_rfl)) (fun _ _ _ h=>h) (Or.inl ⟨by rfl,?_⟩) ?_ ?_
       rotate_left;·intro w';go_simp;with_reducible rfl
       rotate_left;·simp only [Act.put,List.setIfInBounds_toArray,List.set_cons_zero,List.set_cons_succ,i64_w,i32_w];rfl
       refine pure_ (i:=14) (N:=some 30) (v:=?_) (a':=?_) #[true,true,true,true,true,true,true,false,true,true,true,false,false,true,true,false,false,false,false] rfl rfl (any_of HT_.out (by kernel_rfl)) (fun _ _ _ h=>h) (Or.inl ⟨by rfl,?_⟩) ?_ ?_
       rotate_left;·intro w';go_simp;with_reducible rfl
       rotate_left;·simp only [Act.put,List.setIfInBounds_toArray,List.set_cons_zero,List.set_cons_succ,i64_w,i32_w];rfl
       refine pure_ (i:=15) (N:=some 31) (v:=?_) (a':=?_) #[true,true,true,true,true,true,true,false,true,true,true,false,false,true,true,true,false,false,false] rfl rfl (any_of HT_.out (by kernel_rfl)) (fun _ _ _ h=>h) (Or.inl ⟨by rfl,?_⟩) ?_ ?_
       rotate_left;·intro w';go_simp;with_reducible rfl
       rotate_left;·simp only [Act.put,List.setIfInBounds_toArray,List.set_cons_zero,List.set_cons_succ,i64_w,i32_w];rfl
       refine take_ (i:=7) (N:=some 23) (v:=?_) (a':=?_) #[true,true,true,true,true,true,true,true,true,true,true,false,false,true,true,true,false,false,false] rfl rfl (take_ofW HT_.out HW_.out (by kernel_rfl)) (fun _ _ _ h=>h) (Or.inl ⟨by rfl,?_⟩) hHeld ?_ ?_
       rotate_left;·rintro w' ⟨s0,s1,s2⟩;go_simp;with_reducible rfl
       rotate_left;·simp only [Act.put,List.setIfInBounds_toArray,List.set_cons_zero,List.set_cons_succ,i64_w,i32_w];rfl
       refine take_ (i:=12) (N:=some 28) (v:=?_) (a':=?_) #[true,true,true,true,true,true,true,true,true,true,true,false,true,true,true,true,false,false,false] rfl rfl (take_ofW HT_.out HW_.out (by kernel_rfl)) (fun _ _ _ h=>h) (Or.inl ⟨by rfl,?_⟩) hHeld ?_ ?_
       rotate_left;·rintro w' ⟨s0,s1,s2⟩;go_simp;with_reducible rfl
       rotate_left;·simp only [Act.put,List.setIfInBounds_toArray,List.set_cons_zero,List.set_cons_succ,i64_w,i32_w];rfl
       refine one_ (i:=11) (N:=some 27) #[true,true,true,true,true,true,true,true,true,true,true,true,true,true,true,true,false,false,false] rfl rfl (one_of HT_.out (by kernel_rfl)) (by decide) (fun K hK=>?_)
       refine goes_ Try.func57 (by kernel_rfl) rfl #[.agg #[.slice A0_0 l0_0.length c0_0,.slice A0_1 l0_1.length c0_1],.int .i64 a1,.slice (some ad404) l3.length c3,.int .i64 x9_1] (by rfl) rfl rfl (by (try simp only [List.map_toArray,List.map_cons,List.map_nil]);first | done | rfl | (simp only [List.length_drop,List.length_take];rfl)) ?_
       with_reducible refine (spec_l18Into.calls k1 _ _ l0_0 _ _ l0_1 a1 _ _ l3 x9_1 t405 _ ?side1 ?side2 ?side3 ?side4 ?side5 ?side6 A9.out).mono ?_
       (case side1=>exact (Kd.C_below HR0_0.out HB.out))
       (case side2=>exact HC0_0.out)
       (case side3=>exact (Kd.C_below HR0_1.out HB.out))
       (case side4=>exact HC0_1.out)
       (case side5=>exact (Kd.C_below HR3.out HB.out))
       (case side6=>exact HC3.out)
       rintro e w16 ⟨rfl,hb⟩
       refine ⟨_,rfl,?_⟩
       have n0_:=Aside0.mk (blk_below (g:=gb403) (o:=.cells #[.slice A0_0 l0_0.length c0_0,.slice A0_1 l0_1.length c0_1] 28 (0,0)) (by exact BK403.out) hb)
       have n1_:=Aside0.mk (below_step (by exact HB.out) hb)
       clear BK403
       clear HB
       have BK403:=n0_
       have HB:=n1_
       clear n0_ n1_
       (try clear hb)
       (try clear hb2)
       (try clear hk)
       (try clear hi)
       refine hK.out _ _ ⟨(blk_cell BK403.out 0).trans rfl,(blk_cell BK403.out 1).trans rfl,((HB.out.cell (World.block_lt_of_cell? w _ hw404_0)).trans hw404_0)⟩ (fun hHeld=>?_)
       clear hK K
       refine norm_ (a':=?_) ?_ ?_
       rotate_left
       ·show Act.put _ (some 27) _ = _
        simp only [Act.put,List.setIfInBounds_toArray,List.set_cons_zero,List.set_cons_succ,i64_w,i32_w]
        rfl
       refine one_ (i:=16) (N:=some 32) #[true,true,true,true,true,true,true,true,true,true,true,true,true,true,true,true,true,false,false] rfl rfl (one_of HT_.out (by kernel_rfl)) (by decide) (fun K hK=>?_)
       refine goes_ Try.func57 (by kernel_rfl) rfl #[.agg #[.slice A0_0 l0_0.length c0_0,.slice A0_1 l0_1.length c0_1],.int .i64 a2,.slice (some ad404) l3.length c3,.int .i64 x9_1] (by rfl) rfl rfl (by (try simp only [List.map_toArray,List.map_cons,List.map_nil]);first | done | rfl | (simp only [List.length_drop,List.length_take];rfl)) ?_
       with_reducible refine (spec_l18Into.calls k1 _ _ l0_0 _ _ l0_1 a2 _ _ l3 x9_1 t406 _ ?side1 ?side2 ?side3 ?side4 ?side5 ?side6 A10.out).mono ?_
       (case side1=>exact (Kd.C_below HR0_0.out HB.out))
       (case side2=>exact HC0_0.out)
       (case side3=>exact (Kd.C_below HR0_1.out HB.out))
       (case side4=>exact HC0_1.out)
       (case side5=>exact (Kd.C_below HR3.out HB.out))
       (case side6=>exact HC3.out)
       rintro e w17 ⟨rfl,hb⟩
       refine ⟨_,rfl,?_⟩
       have n0_:=Aside0.mk (blk_below (g:=gb403) (o:=.cells #[.slice A0_0 l0_0.length c0_0,.slice A0_1 l0_1.length c0_1] 28 (0,0)) (by exact BK403.out) hb)
       have n1_:=Aside0.mk (below_step (by exact HB.out) hb)
       clear BK403
       clear HB
       have BK403:=n0_
       have HB:=n1_
       clear n0_ n1_
       (try clear hb)
       (try clear hb2)
       (try clear hk)
       (try clear hi)
       refine hK.out _ _ ⟨(blk_cell BK403.out 0).trans rfl,(blk_cell BK403.out 1).trans rfl,((HB.out.cell (World.block_lt_of_cell? w _ hw404_0)).trans hw404_0)⟩ (fun hHeld=>?_)
       clear hK K
       refine norm_ (a':=?_) ?_ ?_
       rotate_left
       ·show Act.put _ (some 32) _ = _
        simp only [Act.put,List.setIfInBounds_toArray,List.set_cons_zero,List.set_cons_succ,i64_w,i32_w]
        rfl
       refine pure_ (i:=17) (N:=some 33) (v:=?_) (a':=?_) #[true,true,true,true,true,true,true,true,true,true,true,true,true,true,true,true,true,true,false] rfl rfl (any_of HT_.out (by kernel_rfl)) (fun _ _ _ h=>h) (Or.inl ⟨by rfl,?_⟩) ?_ ?_
       rotate_left;·intro w';go_simp;with_reducible rfl
       rotate_left;·simp only [Act.put,List.setIfInBounds_toArray,List.set_cons_zero,List.set_cons_succ,i64_w,i32_w];rfl
       refine pure_ (i:=18) (N:=some 34) (v:=?_) (a':=?_) #[true,true,true,true,true,true,true,true,true,true,true,true,true,true,true,true,true,true,true] rfl rfl (any_of HT_.out (by kernel_rfl)) (fun _ _ _ h=>h) (Or.inl ⟨by rfl,?_⟩) ?_ ?_
       rotate_left;·intro w';go_simp;with_reducible rfl
       rotate_left;·simp only [Act.put,List.setIfInBounds_toArray,List.set_cons_zero,List.set_cons_succ,i64_w,i32_w];rfl
       refine done_ (done_of HT_.out (by kernel_rfl)) ?_
       try go_wp2
       go_ret
       exact ⟨rfl,by exact HB.out⟩
     ·rw [if_neg c8] at H
      have c8b0:((rd l3 x9_1) == x9_1) = false:=beq_eq_false_iff_ne.mpr c8
      have c8b1:((rd l3 x9_1) != x9_1) = true:=bne_iff_ne.mpr c8
      have H':=Aside0.mk H
      clear H
      try go_wp2
      have n0_:=Aside0.mk (blk_drew BK403.out)
      have n1_:=Aside0.mk (below_drew1 HB.out)
      clear BK403
      clear HB
      have BK403:=n0_
      have HB:=n1_
      clear n0_ n1_
      have p404:0 ≤ (x9_1:Int):=of_decide_eq_true (by assumption)
      have q404:x9_1 < (l3.length:Int):=of_decide_eq_true (by assumption)
      obtain ⟨ad404,e404,hx404_0⟩:=Kd.at_int HR3.out x9_1 p404 q404
      have hw404_0:=hx404_0
      cases e404
      replace hx404_0:=(HB.out.cell (World.block_lt_of_cell? w _ hx404_0)).trans hx404_0
      replace p404:=eq_true p404
      replace q404:=eq_true q404
      refine start_ (n:=19) (S:=fun w'=>w'.cell? (ad404.add (x9_1).toNat) = some (.int .i64 (rd l3 x9_1))) (ds:=[]) #[false,false,false,false,false,false,false,false,false,false,false,false,false,false,false,false,false,false,false] (by kernel_rfl) rfl rfl (((HB.out.cell (World.block_lt_of_cell? w _ hw404_0)).trans hw404_0)) (fun hHeld=>?_);refine with_tabW spec_l18Alike.tab4 spec_l18Alike.bits4 (fun HT_ HW_=>?_)
      generalize wr.drew = w18 at BK403 HB hx404_0 hHeld ⊢
      refine pure_ (i:=0) (N:=some 16) (v:=?_) (a':=?_) #[true,false,false,false,false,false,false,false,false,false,false,false,false,false,false,false,false,false,false] rfl rfl (any_of HT_.out (by kernel_rfl)) (fun _ _ _ h=>h) (Or.inl ⟨by rfl,?_⟩) ?_ ?_
      rotate_left;·intro w';go_simp;with_reducible rfl
      rotate_left;·simp only [Act.put,List.setIfInBounds_toArray,List.set_cons_zero,List.set_cons_succ,i64_w,i32_w];rfl
      refine pure_ (i:=1) (N:=some 17) (v:=?_) (a':=?_) #[true,true,false,false,false,false,false,false,false,false,false,false,false,false,false,false,false,false,false] rfl rfl (any_of HT_.out (by kernel_rfl)) (fun _ _ _ h=>h) (Or.inl ⟨by rfl,?_⟩) ?_ ?_
      rotate_left;·intro w';go_simp;with_reducible rfl
      rotate_left;·simp only [Act.put,List.setIfInBounds_toArray,List.set_cons_zero,List.set_cons_succ,i64_w,i32_w];rfl
      refine pure_ (i:=2) (N:=some 18) (v:=?_) (a':=?_) #[true,true,true,false,false,false,false,false,false,false,false,false,false,false,false,false,false,false,false] rfl rfl (any_of HT_.out (by kernel_rfl)) (fun _ _ _ h=>h) (Or.inl ⟨by rfl,?_⟩) ?_ ?_
      rotate_left;·intro w';go_simp;with_reducible rfl
      rotate_left;·simp only [Act.put,List.setIfInBounds_toArray,List.set_cons_zero,List.set_cons_succ,i64_w,i32_w];rfl
      refine pure_ (i:=4) (N:=some 20) (v:=?_) (a':=?_) #[true,true,true,false,true,false,false,false,false,false,false,false,false,false,false,false,false,false,false] rfl rfl (any_of HT_.out (by kernel_rfl)) (fun _ _ _ h=>h) (Or.inl ⟨by rfl,?_⟩) ?_ ?_
      rotate_left;·intro w';go_simp;with_reducible rfl
      rotate_left;·simp only [Act.put,List.setIfInBounds_toArray,List.set_cons_zero,List.set_cons_succ,i64_w,i32_w];rfl
      refine take_ (i:=3) (N:=some 19) (v:=?_) (a':=?_) #[true,true,true,true,true,false,false,false,false,false,false,false,false,false,false,false,false,false,false] rfl rfl (take_ofW HT_.out HW_.out (by kernel_rfl)) (fun _ _ _ h=>h) (Or.inl ⟨by rfl,?_⟩) hHeld ?_ ?_
      rotate_left
      ·intro w' s0
       go_simp
       with_reducible rfl
      rotate_left;·simp only [Act.put,List.setIfInBounds_toArray,List.set_cons_zero,List.set_cons_succ,i64_w,i32_w];rfl
      refine pure_ (i:=5) (N:=some 21) (v:=?_) (a':=?_) #[true,true,true,true,true,true,false,false,false,false,false,false,false,false,false,false,false,false,false] rfl rfl (any_of HT_.out (by kernel_rfl)) (fun _ _ _ h=>h) (Or.inl ⟨by rfl,?_⟩) ?_ ?_
      rotate_left;·intro w';go_simp;with_reducible rfl
      rotate_left;·simp only [Act.put,List.setIfInBounds_toArray,List.set_cons_zero,List.set_cons_succ,i64_w,i32_w];rfl
      refine pure_ (i:=6) (N:=some 22) (v:=?_) (a':=?_) #[true,true,true,true,true,true,true,false,false,false,false,false,false,false,false,false,false,false,false] rfl rfl (any_of HT_.out (by kernel_rfl)) (fun _ _ _ h=>h) (Or.inl ⟨by rfl,?_⟩) ?_ ?_
      rotate_left;·intro w';go_simp;with_reducible rfl
      rotate_left;·simp only [Act.put,List.setIfInBounds_toArray,List.set_cons_zero,List.set_cons_succ,i64_w,i32_w];rfl
      refine pure_ (i:=7) (N:=some 23) (v:=undef) (a':=?_) #[true,true,true,true,true,true,true,true,false,false,false,false,false,false,false,false,false,false,false] rfl rfl (any_of HT_.out (by kernel_rfl)) (fun _ _ _ h=>h) (Or.inr ⟨by rfl,rfl⟩) ?_ ?_
      rotate_left;·simp only [Act.put,List.setIfInBounds_toArray,List.set_cons_zero,List.set_cons_succ,i64_w,i32_w];rfl
      refine pure_ (i:=8) (N:=some 24) (v:=undef) (a':=?_) #[true,true,true,true,true,true,true,true,true,false,false,false,false,false,false,false,false,false,false] rfl rfl (any_of HT_.out (by kernel_rfl)) (fun _ _ _ h=>h) (Or.inr ⟨by rfl,rfl⟩) ?_ ?_
      rotate_left;·simp only [Act.put,List.setIfInBounds_toArray,List.set_cons_zero,List.set_cons_succ,i64_w,i32_w];rfl
      refine pure_ (i:=9) (N:=some 25) (v:=undef) (a':=?_) #[true,true,true,true,true,true,true,true,true,true,false,false,false,false,false,false,false,false,false] rfl rfl (any_of HT_.out (by kernel_rfl)) (fun _ _ _ h=>h) (Or.inr ⟨by rfl,rfl⟩) ?_ ?_
      rotate_left;·simp only [Act.put,List.setIfInBounds_toArray,List.set_cons_zero,List.set_cons_succ,i64_w,i32_w];rfl
      refine pure_ (i:=10) (N:=some 26) (v:=undef) (a':=?_) #[true,true,true,true,true,true,true,true,true,true,true,false,false,false,false,false,false,false,false] rfl rfl (any_of HT_.out (by kernel_rfl)) (fun _ _ _ h=>h) (Or.inr ⟨by rfl,rfl⟩) ?_ ?_
      rotate_left;·simp only [Act.put,List.setIfInBounds_toArray,List.set_cons_zero,List.set_cons_succ,i64_w,i32_w];rfl
      refine pure_ (i:=11) (N:=some 27) (v:=undef) (a':=?_) #[true,true,true,true,true,true,true,true,true,true,true,true,false,false,false,false,false,false,false] rfl rfl (any_of HT_.out (by kernel_rfl)) (fun _ _ _ h=>h) (Or.inr ⟨by rfl,rfl⟩) ?_ ?_
      rotate_left;·simp only [Act.put,List.setIfInBounds_toArray,List.set_cons_zero,List.set_cons_succ,i64_w,i32_w];rfl
      refine pure_ (i:=12) (N:=some 28) (v:=undef) (a':=?_) #[true,true,true,true,true,true,true,true,true,true,true,true,true,false,false,false,false,false,false] rfl rfl (any_of HT_.out (by kernel_rfl)) (fun _ _ _ h=>h) (Or.inr ⟨by rfl,rfl⟩) ?_ ?_
      rotate_left;·simp only [Act.put,List.setIfInBounds_toArray,List.set_cons_zero,List.set_cons_succ,i64_w,i32_w];rfl
      refine pure_ (i:=13) (N:=some 29) (v:=undef) (a':=?_) #[true,true,true,true,true,true,true,true,true,true,true,true,true,true,false,false,false,false,false] rfl rfl (any_of HT_.out (by kernel_rfl)) (fun _ _ _ h=>h) (Or.inr ⟨by rfl,rfl⟩) ?_ ?_
      rotate_left;·simp only [Act.put,List.setIfInBounds_toArray,List.set_cons_zero,List.set_cons_succ,i64_w,i32_w];rfl
      refine pure_ (i:=14) (N:=some 30) (v:=undef) (a':=?_) #[true,true,true,true,true,true,true,true,true,true,true,true,true,true,true,false,false,false,false] rfl rfl (any_of HT_.out (by kernel_rfl)) (fun _ _ _ h=>h) (Or.inr ⟨by rfl,rfl⟩) ?_ ?_
      rotate_left;·simp only [Act.put,List.setIfInBounds_toArray,List.set_cons_zero,List.set_cons_succ,i64_w,i32_w];rfl
      refine pure_ (i:=15) (N:=some 31) (v:=undef) (a':=?_) #[true,true,true,true,true,true,true,true,true,true,true,true,true,true,true,true,false,false,false] rfl rfl (any_of HT_.out (by kernel_rfl)) (fun _ _ _ h=>h) (Or.inr ⟨by rfl,rfl⟩) ?_ ?_
      rotate_left;·simp only [Act.put,List.setIfInBounds_toArray,List.set_cons_zero,List.set_cons_succ,i64_w,i32_w];rfl
      refine pure_ (i:=16) (N:=some 32) (v:=undef) (a':=?_) #[true,true,true,true,true,true,true,true,true,true,true,true,true,true,true,true,true,false,false] rfl rfl (any_of HT_.out (by kernel_rfl)) (fun _ _ _ h=>h) (Or.inr ⟨by rfl,rfl⟩) ?_ ?_
      rotate_left;·simp only [Act.put,List.setIfInBounds_toArray,List.set_cons_zero,List.set_cons_succ,i64_w,i32_w];rfl
      refine pure_ (i:=17) (N:=some 33) (v:=undef) (a':=?_) #[true,true,true,true,true,true,true,true,true,true,true,true,true,true,true,true,true,true,false] rfl rfl (any_of HT_.out (by kernel_rfl)) (fun _ _ _ h=>h) (Or.inr ⟨by rfl,rfl⟩) ?_ ?_
      rotate_left;·simp only [Act.put,List.setIfInBounds_toArray,List.set_cons_zero,List.set_cons_succ,i64_w,i32_w];rfl
      refine pure_ (i:=18) (N:=some 34) (v:=?_) (a':=?_) #[true,true,true,true,true,true,true,true,true,true,true,true,true,true,true,true,true,true,true] rfl rfl (any_of HT_.out (by kernel_rfl)) (fun _ _ _ h=>h) (Or.inl ⟨by rfl,?_⟩) ?_ ?_
      rotate_left;·intro w';go_simp;with_reducible rfl
      rotate_left;·simp only [Act.put,List.setIfInBounds_toArray,List.set_cons_zero,List.set_cons_succ,i64_w,i32_w];rfl
      refine done_ (done_of HT_.out (by kernel_rfl)) ?_
      try go_wp2
      go_roundg k1
      case measure=>have:=HK1.out;omega
      case rel=>exact ⟨(wrap64 (x9_1 + 1)),(by first | rfl | (simp;done) | (simp [*];done)),H',⟨by have:=HK1.out;omega⟩,⟨by exact BK403.out⟩,⟨by exact HB.out⟩⟩
    ·rw [if_neg c7] at H
     exact absurd H (by simp)
   ·rw [if_neg c6] at H
    have c6b0:decide (x9_1 < (l3.length:Int)) = false:=decide_eq_false c6
    clear c6
    obtain rfl:=Option.some.inj H
    go_wp2
    go_ret
    exact ⟨rfl,by exact HB.out⟩
def spec_l4Same.l0:Nat → List Int → List Int → Int → Option (Bool)
 | 0,_,_,_=>none
 | k + 1,x0,x1,x5=>if x5 < (x0.length:Int) then (if 0 ≤ x5 then (if x5 < (x1.length:Int) then (if (rd x0 x5) = (rd x1 x5) then (spec_l4Same.l0 k x0 x1 (wrap64 (x5 + 1))) else (some false)) else (none)) else (none)) else (some true)
def spec_l4Same.f (k:Nat) (l0:List Int) (l1:List Int):Option (Bool):=if (l0.length:Int) = (l1.length:Int) then (spec_l4Same.l0 k l0 l1 0) else (some false)
theorem spec_l4Same.mono_l:∀ k,(∀ y0 y1 y2,LeO (spec_l4Same.l0 k y0 y1 y2) (spec_l4Same.l0 (k + 1) y0 y1 y2))
 | 0=>fun _ _ _ r h=>by simp [spec_l4Same.l0] at h
 | k + 1=>by
  have ih0:=spec_l4Same.mono_l k
  ·intro y0 y1 y2
   unfold spec_l4Same.l0
   repeat' first
   | (with_reducible exact ih0 _ _ _)
   | (with_reducible exact LeO.refl _)
   | (with_reducible exact LeO.none _)
   | (with_reducible refine LeO.ite ?_ ?_)
   | (with_reducible refine LeO.bind ?_ (fun _=>?_))
   | exact ih0 _ _ _
   | exact LeO.none _
   | refine LeO.ite ?_ ?_
   | refine LeO.bind ?_ (fun _=>?_)
theorem spec_l4Same.mono:∀ a0 a1 k,LeO (spec_l4Same.f k a0 a1) (spec_l4Same.f (k + 1) a0 a1):=by
 intro a0 a1 k
 have ih0:=spec_l4Same.mono_l k
 unfold spec_l4Same.f
 repeat' first
   | (with_reducible exact ih0 _ _ _)
   | (with_reducible exact LeO.refl _)
   | (with_reducible exact LeO.none _)
   | (with_reducible refine LeO.ite ?_ ?_)
   | (with_reducible refine LeO.bind ?_ (fun _=>?_))
   | exact ih0 _ _ _
   | exact LeO.none _
   | refine LeO.ite ?_ ?_
   | refine LeO.bind ?_ (fun _=>?_)
set_option maxHeartbeats 8000000 in
set_option maxRecDepth 100000 in
theorem spec_l4Same.calls (k:Nat) (A0:Option Addr) (c0:Nat) (l0:List Int) (A1:Option Addr) (c1:Nat) (l1:List Int) (r:Bool) (w:World) (hr0:Kd.C (Kd.int .i64) w A0 l0.length l0) (hc0:l0.length ≤ c0) (hr1:Kd.C (Kd.int .i64) w A1 l1.length l1) (hc1:l1.length ≤ c1) (h:spec_l4Same.f k l0 l1 = some r) :
  Calls Try.prog 65 #[.slice A0 l0.length c0,.slice A1 l1.length c1] w fun e w'=>e = .returned (.bool r)∧Drawn0 w w':=by
 have HR0:=Aside0.mk hr0
 have HC0:=Aside0.mk hc0
 clear hr0 hc0
 have HR1:=Aside0.mk hr1
 have HC1:=Aside0.mk hc1
 clear hr1 hc1
 have H:(if (l0.length:Int) = (l1.length:Int) then (spec_l4Same.l0 k l0 l1 0) else (some false)) = some r:=h
 clear h
 by_cases c3:(l0.length:Int) = (l1.length:Int)
 ·rw [if_pos c3] at H
  have c3b0:((l0.length:Int) == (l1.length:Int)) = true:=beq_iff_eq.mpr c3
  have c3b1:((l0.length:Int) != (l1.length:Int)) = false:=bne_eq_false_iff_eq.mpr c3
  have c3b2:(l0.length == l1.length) = true:=by first | simpa using c3 | (simp at c3 ⊢;omega)
  clear c3
  have H':=Aside0.mk H
  clear H
  go_enter Try.func65,Try.ntmps65
  go_wp2
  repeat (go_quiet (fail);try go_wp2)
  go_loopg [5] k (fun kq v5 w'=>∃ (x5_1:Int),v5 = .int .i64 x5_1∧Aside0 (spec_l4Same.l0 kq l0 l1 x5_1 = some r)∧Aside0 (kq ≤ k)∧Drawn0 w w')
  case atStart=>exact ⟨(0),(by first | rfl | (simp;done) | (simp [*];done)),H',⟨Nat.le_refl _⟩,by repeat (first | exact Drawn0.refl _ | apply Drawn0.step)⟩
  case round =>
   clear H'
   try clear c1
   try clear p2
   try clear c3
   try clear c3b0
   try clear c3b1
   try clear c3b2
   obtain ⟨x5_1,rfl,HA,HK1,⟨m1,rfl⟩⟩:=hrel
   cases gk with
   | zero=>exact absurd HA.out (by simp [spec_l4Same.l0])
   | succ k1 =>
    have H:=HA.out
    clear HA
    simp only [spec_l4Same.l0] at H
    by_cases c4:x5_1 < (l0.length:Int)
    ·rw [if_pos c4] at H
     have c4b0:decide (x5_1 < (l0.length:Int)) = true:=decide_eq_true c4
     clear c4
     by_cases c5:0 ≤ x5_1
     ·rw [if_pos c5] at H
      have c5b0:decide (0 ≤ x5_1) = true:=decide_eq_true c5
      clear c5
      by_cases c6:x5_1 < (l1.length:Int)
      ·rw [if_pos c6] at H
       have c6b0:decide (x5_1 < (l1.length:Int)) = true:=decide_eq_true c6
       clear c6
       by_cases c7:(rd l0 x5_1) = (rd l1 x5_1)
       ·rw [if_pos c7] at H
        have c7b0:((rd l0 x5_1) == (rd l1 x5_1)) = true:=beq_iff_eq.mpr c7
        have c7b1:((rd l0 x5_1) != (rd l1 x5_1)) = false:=bne_eq_false_iff_eq.mpr c7
        clear c7
        have H':=Aside0.mk H
        clear H
        have p407:0 ≤ (x5_1:Int):=of_decide_eq_true (by assumption)
        have q407:x5_1 < (l0.length:Int):=of_decide_eq_true (by assumption)
        obtain ⟨ad407,e407,hx407_0⟩:=Kd.at_int HR0.out x5_1 p407 q407
        cases e407
        replace p407:=eq_true p407
        replace q407:=eq_true q407
        have p408:0 ≤ (x5_1:Int):=of_decide_eq_true (by assumption)
        have q408:x5_1 < (l1.length:Int):=of_decide_eq_true (by assumption)
        obtain ⟨ad408,e408,hx408_0⟩:=Kd.at_int HR1.out x5_1 p408 q408
        cases e408
        replace p408:=eq_true p408
        replace q408:=eq_true q408
        go_wp2
        repeat (go_quiet (fail);try go_wp2)
        go_roundg k1
        case measure=>have:=HK1.out;omega
        case rel=>exact ⟨(wrap64 (x5_1 + 1)),(by first | rfl | (simp;done) | (simp [*];done)),H',⟨by have:=HK1.out;omega⟩,by repeat (first | exact Drawn0.refl _ | apply Drawn0.step)⟩
       ·rw [if_neg c7] at H
        have c7b0:((rd l0 x5_1) == (rd l1 x5_1)) = false:=beq_eq_false_iff_ne.mpr c7
        have c7b1:((rd l0 x5_1) != (rd l1 x5_1)) = true:=bne_iff_ne.mpr c7
        obtain rfl:=Option.some.inj H
        have p407:0 ≤ (x5_1:Int):=of_decide_eq_true (by assumption)
        have q407:x5_1 < (l0.length:Int):=of_decide_eq_true (by assumption)
        obtain ⟨ad407,e407,hx407_0⟩:=Kd.at_int HR0.out x5_1 p407 q407
        cases e407
        replace p407:=eq_true p407
        replace q407:=eq_true q407
        have p408:0 ≤ (x5_1:Int):=of_decide_eq_true (by assumption)
        have q408:x5_1 < (l1.length:Int):=of_decide_eq_true (by assumption)
        obtain ⟨ad408,e408,hx408_0⟩:=Kd.at_int HR1.out x5_1 p408 q408
        cases e408
        replace p408:=eq_true p408
        replace q408:=eq_true q408
        go_wp2
        repeat (go_quiet (fail);try go_wp2)
        go_ret
        exact ⟨by first | rfl | (simp;done) | (simp [*];done),by repeat (first | exact Drawn0.refl _ | apply Drawn0.step)⟩
      ·rw [if_neg c6] at H
       exact absurd H (by simp)
     ·rw [if_neg c5] at H
      exact absurd H (by simp)
    ·rw [if_neg c4] at H
     have c4b0:decide (x5_1 < (l0.length:Int)) = false:=decide_eq_false c4
     clear c4
     obtain rfl:=Option.some.inj H
     go_wp2
     repeat (go_quiet (fail);try go_wp2)
     go_ret
     exact ⟨by first | rfl | (simp;done) | (simp [*];done),by repeat (first | exact Drawn0.refl _ | apply Drawn0.step)⟩
 ·rw [if_neg c3] at H
  have c3b0:((l0.length:Int) == (l1.length:Int)) = false:=beq_eq_false_iff_ne.mpr c3
  have c3b1:((l0.length:Int) != (l1.length:Int)) = true:=bne_iff_ne.mpr c3
  have c3b2:(l0.length == l1.length) = false:=by first | simpa using c3 | (simp at c3 ⊢;omega)
  obtain rfl:=Option.some.inj H
  go_enter Try.func65,Try.ntmps65
  go_wp2
  repeat (go_quiet (fail);try go_wp2)
  go_ret
  exact ⟨by first | rfl | (simp;done) | (simp [*];done),by repeat (first | exact Drawn0.refl _ | apply Drawn0.step)⟩
def laws_mnRows.l0:Nat → List (List Int) → List (List Int) → Int → Option (Bool)
 | 0,_,_,_=>none
 | k + 1,x0,x1,x5=>if x5 < (x0.length:Int) then (if 0 ≤ x5 then (if x5 < (x1.length:Int) then ((laws_mnInts.f k (rd_L1 x0 x5) (rd_L1 x1 x5)).bind fun t652=>(if t652 = true then (laws_mnRows.l0 k x0 x1 (wrap64 (x5 + 1))) else (some false))) else (none)) else (none)) else (some true)
def laws_mnRows.f (k:Nat) (l0:List (List Int)) (l1:List (List Int)):Option (Bool):=if (l0.length:Int) = (l1.length:Int) then (laws_mnRows.l0 k l0 l1 0) else (some false)
theorem laws_mnRows.mono_l:∀ k,(∀ y0 y1 y2,LeO (laws_mnRows.l0 k y0 y1 y2) (laws_mnRows.l0 (k + 1) y0 y1 y2))
 | 0=>fun _ _ _ r h=>by simp [laws_mnRows.l0] at h
 | k + 1=>by
  have ih0:=laws_mnRows.mono_l k
  ·intro y0 y1 y2
   unfold laws_mnRows.l0
   repeat' first
   | (with_reducible exact ih0 _ _ _)
   | (with_reducible exact laws_mnInts.mono _ _ _)
   | (with_reducible exact LeO.refl _)
   | (with_reducible exact LeO.none _)
   | (with_reducible refine LeO.ite ?_ ?_)
   | (with_reducible refine LeO.bind ?_ (fun _=>?_))
   | exact ih0 _ _ _
   | exact laws_mnInts.mono _ _ _
   | exact LeO.none _
   | refine LeO.ite ?_ ?_
   | refine LeO.bind ?_ (fun _=>?_)
theorem laws_mnRows.mono:∀ a0 a1 k,LeO (laws_mnRows.f k a0 a1) (laws_mnRows.f (k + 1) a0 a1):=by
 intro a0 a1 k
 have ih0:=laws_mnRows.mono_l k
 unfold laws_mnRows.f
 repeat' first
   | (with_reducible exact ih0 _ _ _)
   | (with_reducible exact laws_mnInts.mono _ _ _)
   | (with_reducible exact LeO.refl _)
   | (with_reducible exact LeO.none _)
   | (with_reducible refine LeO.ite ?_ ?_)
   | (with_reducible refine LeO.bind ?_ (fun _=>?_))
   | exact ih0 _ _ _
   | exact laws_mnInts.mono _ _ _
   | exact LeO.none _
   | refine LeO.ite ?_ ?_
   | refine LeO.bind ?_ (fun _=>?_)
set_option maxHeartbeats 8000000 in
set_option maxRecDepth 100000 in
theorem laws_mnRows.calls (k:Nat) (A0:Option Addr) (c0:Nat) (l0:List (List Int)) (A1:Option Addr) (c1:Nat) (l1:List (List Int)) (r:Bool) (w:World) (hr0:Kd.C (Kd.slice 3 (Kd.int .i64)) w A0 l0.length l0) (hc0:l0.length ≤ c0) (hr1:Kd.C (Kd.slice 3 (Kd.int .i64)) w A1 l1.length l1) (hc1:l1.length ≤ c1) (h:laws_mnRows.f k l0 l1 = some r) :
  Calls Try.prog 58 #[.slice A0 l0.length c0,.slice A1 l1.length c1] w fun e w'=>e = .returned (.bool r)∧Drawn0 w w':=by
 have HR0:=Aside0.mk hr0
 have HC0:=Aside0.mk hc0
 clear hr0 hc0
 have HR1:=Aside0.mk hr1
 have HC1:=Aside0.mk hc1
 clear hr1 hc1
 have H:(if (l0.length:Int) = (l1.length:Int) then (laws_mnRows.l0 k l0 l1 0) else (some false)) = some r:=h
 clear h
 by_cases c3:(l0.length:Int) = (l1.length:Int)
 ·rw [if_pos c3] at H
  have c3b0:((l0.length:Int) == (l1.length:Int)) = true:=beq_iff_eq.mpr c3
  have c3b1:((l0.length:Int) != (l1.length:Int)) = false:=bne_eq_false_iff_eq.mpr c3
  have c3b2:(l0.length == l1.length) = true:=by first | simpa using c3 | (simp at c3 ⊢;omega)
  clear c3
  have H':=Aside0.mk H
  clear H
  go_enter Try.func58,Try.ntmps58
  go_wp2
  repeat (go_quiet (fail);try go_wp2)
  go_loopg [5] k (fun kq v5 w'=>∃ (x5_1:Int),v5 = .int .i64 x5_1∧Aside0 (laws_mnRows.l0 kq l0 l1 x5_1 = some r)∧Aside0 (kq ≤ k)∧Drawn0 w w')
  case atStart=>exact ⟨(0),(by first | rfl | (simp;done) | (simp [*];done)),H',⟨Nat.le_refl _⟩,by repeat (first | exact Drawn0.refl _ | apply Drawn0.step)⟩
  case round =>
   clear H'
   try clear c1
   try clear p2
   try clear c3
   try clear c3b0
   try clear c3b1
   try clear c3b2
   obtain ⟨x5_1,rfl,HA,HK1,⟨m1,rfl⟩⟩:=hrel
   cases gk with
   | zero=>exact absurd HA.out (by simp [laws_mnRows.l0])
   | succ k1 =>
    have H:=HA.out
    clear HA
    simp only [laws_mnRows.l0] at H
    by_cases c4:x5_1 < (l0.length:Int)
    ·rw [if_pos c4] at H
     have c4b0:decide (x5_1 < (l0.length:Int)) = true:=decide_eq_true c4
     clear c4
     by_cases c5:0 ≤ x5_1
     ·rw [if_pos c5] at H
      have c5b0:decide (0 ≤ x5_1) = true:=decide_eq_true c5
      clear c5
      by_cases c6:x5_1 < (l1.length:Int)
      ·rw [if_pos c6] at H
       have c6b0:decide (x5_1 < (l1.length:Int)) = true:=decide_eq_true c6
       clear c6
       replace H:=Option.bind_eq_some_iff.mp H
       obtain ⟨t652,A70,H⟩:=H
       replace H:(if t652 = true then (laws_mnRows.l0 k1 l0 l1 (wrap64 (x5_1 + 1))) else (some false)) = some r:=H
       have A7:=Aside0.mk A70
       clear A70
       by_cases c8:t652 = true
       ·subst c8
        have H1:(laws_mnRows.l0 k1 l0 l1 (wrap64 (x5_1 + 1))) = some r:=by rw [if_pos rfl] at H;exact H
        clear H
        have H:=H1
        clear H1
        have H':=Aside0.mk H
        clear H
        have p650:0 ≤ (x5_1:Int):=of_decide_eq_true (by assumption)
        have q650:x5_1 < (l0.length:Int):=of_decide_eq_true (by assumption)
        obtain ⟨ad650,A650_0,c650_0,e650,hx650_0,hl650_0,hi650_0⟩:=at_L1 HR0.out x5_1 p650 q650
        cases e650
        have HR650_0:=Aside0.mk hi650_0
        have HC650_0:=Aside0.mk hl650_0
        clear hi650_0 hl650_0
        replace p650:=eq_true p650
        replace q650:=eq_true q650
        have p651:0 ≤ (x5_1:Int):=of_decide_eq_true (by assumption)
        have q651:x5_1 < (l1.length:Int):=of_decide_eq_true (by assumption)
        obtain ⟨ad651,A651_0,c651_0,e651,hx651_0,hl651_0,hi651_0⟩:=at_L1 HR1.out x5_1 p651 q651
        cases e651
        have HR651_0:=Aside0.mk hi651_0
        have HC651_0:=Aside0.mk hl651_0
        clear hi651_0 hl651_0
        replace p651:=eq_true p651
        replace q651:=eq_true q651
        go_wp2_with (first | (go_at_call 24;(with_reducible refine (laws_mnInts.calls k1 _ _ (rd_L1 l0 x5_1) _ _ (rd_L1 l1 x5_1) true _ ?side1 ?side2 ?side3 ?side4 A7.out).mono ?_);(case side1=>exact HR650_0.out);(case side2=>exact HC650_0.out);(case side3=>exact HR651_0.out);(case side4=>exact HC651_0.out);rintro e w' ⟨rfl,⟨nd,rfl⟩⟩;(try first | exact ⟨rfl,_,World.drewN_drewN _ _ _⟩ | exact ⟨rfl,_,Eq.trans (World.drewN_drewN _ _ _) (congrArg (World.drewN _) (Nat.add_assoc _ _ _))⟩)))
        repeat (go_quiet (first | (go_at_call 24;(with_reducible refine (laws_mnInts.calls k1 _ _ (rd_L1 l0 x5_1) _ _ (rd_L1 l1 x5_1) true _ ?side1 ?side2 ?side3 ?side4 A7.out).mono ?_);(case side1=>exact HR650_0.out);(case side2=>exact HC650_0.out);(case side3=>exact HR651_0.out);(case side4=>exact HC651_0.out);rintro e w' ⟨rfl,⟨nd,rfl⟩⟩;(try first | exact ⟨rfl,_,World.drewN_drewN _ _ _⟩ | exact ⟨rfl,_,Eq.trans (World.drewN_drewN _ _ _) (congrArg (World.drewN _) (Nat.add_assoc _ _ _))⟩)));try go_wp2_with (first | (go_at_call 24;(with_reducible refine (laws_mnInts.calls k1 _ _ (rd_L1 l0 x5_1) _ _ (rd_L1 l1 x5_1) true _ ?side1 ?side2 ?side3 ?side4 A7.out).mono ?_);(case side1=>exact HR650_0.out);(case side2=>exact HC650_0.out);(case side3=>exact HR651_0.out);(case side4=>exact HC651_0.out);rintro e w' ⟨rfl,⟨nd,rfl⟩⟩;(try first | exact ⟨rfl,_,World.drewN_drewN _ _ _⟩ | exact ⟨rfl,_,Eq.trans (World.drewN_drewN _ _ _) (congrArg (World.drewN _) (Nat.add_assoc _ _ _))⟩))))
        go_roundg k1
        case measure=>have:=HK1.out;omega
        case rel=>exact ⟨(wrap64 (x5_1 + 1)),(by first | rfl | (simp;done) | (simp [*];done)),H',⟨by have:=HK1.out;omega⟩,by repeat (first | exact Drawn0.refl _ | apply Drawn0.step)⟩
       ·replace c8:=Bool.eq_false_iff.mpr c8
        subst c8
        have H1:(some false) = some r:=by rw [if_neg (show ¬ (false = true) by decide)] at H;exact H
        clear H
        have H:=H1
        clear H1
        obtain rfl:=Option.some.inj H
        have p650:0 ≤ (x5_1:Int):=of_decide_eq_true (by assumption)
        have q650:x5_1 < (l0.length:Int):=of_decide_eq_true (by assumption)
        obtain ⟨ad650,A650_0,c650_0,e650,hx650_0,hl650_0,hi650_0⟩:=at_L1 HR0.out x5_1 p650 q650
        cases e650
        have HR650_0:=Aside0.mk hi650_0
        have HC650_0:=Aside0.mk hl650_0
        clear hi650_0 hl650_0
        replace p650:=eq_true p650
        replace q650:=eq_true q650
        have p651:0 ≤ (x5_1:Int):=of_decide_eq_true (by assumption)
        have q651:x5_1 < (l1.length:Int):=of_decide_eq_true (by assumption)
        obtain ⟨ad651,A651_0,c651_0,e651,hx651_0,hl651_0,hi651_0⟩:=at_L1 HR1.out x5_1 p651 q651
        cases e651
        have HR651_0:=Aside0.mk hi651_0
        have HC651_0:=Aside0.mk hl651_0
        clear hi651_0 hl651_0
        replace p651:=eq_true p651
        replace q651:=eq_true q651
        go_wp2_with (first | (go_at_call 24;(with_reducible refine (laws_mnInts.calls k1 _ _ (rd_L1 l0 x5_1) _ _ (rd_L1 l1 x5_1) false _ ?side1 ?side2 ?side3 ?side4 A7.out).mono ?_);(case side1=>exact HR650_0.out);(case side2=>exact HC650_0.out);(case side3=>exact HR651_0.out);(case side4=>exact HC651_0.out);rintro e w' ⟨rfl,⟨nd,rfl⟩⟩;(try first | exact ⟨rfl,_,World.drewN_drewN _ _ _⟩ | exact ⟨rfl,_,Eq.trans (World.drewN_drewN _ _ _) (congrArg (World.drewN _) (Nat.add_assoc _ _ _))⟩)))
        repeat (go_quiet (first | (go_at_call 24;(with_reducible refine (laws_mnInts.calls k1 _ _ (rd_L1 l0 x5_1) _ _ (rd_L1 l1 x5_1) false _ ?side1 ?side2 ?side3 ?side4 A7.out).mono ?_);(case side1=>exact HR650_0.out);(case side2=>exact HC650_0.out);(case side3=>exact HR651_0.out);(case side4=>exact HC651_0.out);rintro e w' ⟨rfl,⟨nd,rfl⟩⟩;(try first | exact ⟨rfl,_,World.drewN_drewN _ _ _⟩ | exact ⟨rfl,_,Eq.trans (World.drewN_drewN _ _ _) (congrArg (World.drewN _) (Nat.add_assoc _ _ _))⟩)));try go_wp2_with (first | (go_at_call 24;(with_reducible refine (laws_mnInts.calls k1 _ _ (rd_L1 l0 x5_1) _ _ (rd_L1 l1 x5_1) false _ ?side1 ?side2 ?side3 ?side4 A7.out).mono ?_);(case side1=>exact HR650_0.out);(case side2=>exact HC650_0.out);(case side3=>exact HR651_0.out);(case side4=>exact HC651_0.out);rintro e w' ⟨rfl,⟨nd,rfl⟩⟩;(try first | exact ⟨rfl,_,World.drewN_drewN _ _ _⟩ | exact ⟨rfl,_,Eq.trans (World.drewN_drewN _ _ _) (congrArg (World.drewN _) (Nat.add_assoc _ _ _))⟩))))
        go_ret
        exact ⟨by first | rfl | (simp;done) | (simp [*];done),by repeat (first | exact Drawn0.refl _ | apply Drawn0.step)⟩
      ·rw [if_neg c6] at H
       exact absurd H (by simp)
     ·rw [if_neg c5] at H
      exact absurd H (by simp)
    ·rw [if_neg c4] at H
     have c4b0:decide (x5_1 < (l0.length:Int)) = false:=decide_eq_false c4
     clear c4
     obtain rfl:=Option.some.inj H
     go_wp2
     repeat (go_quiet (fail);try go_wp2)
     go_ret
     exact ⟨by first | rfl | (simp;done) | (simp [*];done),by repeat (first | exact Drawn0.refl _ | apply Drawn0.step)⟩
 ·rw [if_neg c3] at H
  have c3b0:((l0.length:Int) == (l1.length:Int)) = false:=beq_eq_false_iff_ne.mpr c3
  have c3b1:((l0.length:Int) != (l1.length:Int)) = true:=bne_iff_ne.mpr c3
  have c3b2:(l0.length == l1.length) = false:=by first | simpa using c3 | (simp at c3 ⊢;omega)
  obtain rfl:=Option.some.inj H
  go_enter Try.func58,Try.ntmps58
  go_wp2
  repeat (go_quiet (fail);try go_wp2)
  go_ret
  exact ⟨by first | rfl | (simp;done) | (simp [*];done),by repeat (first | exact Drawn0.refl _ | apply Drawn0.step)⟩
def laws_mnChances.f (k:Nat) (l0_0:List Int) (l0_1:List (List Int)) (l1_0:List Int) (l1_1:List (List Int)):Option (Bool):=(laws_mnInts.f k l0_0 l1_0).bind fun t655=>(if t655 = true then ((laws_mnRows.f k l0_1 l1_1).bind fun t656=>(some t656)) else (some false))
theorem laws_mnChances.mono:∀ a0 a1 a2 a3 k,LeO (laws_mnChances.f k a0 a1 a2 a3) (laws_mnChances.f (k + 1) a0 a1 a2 a3):=by
 intro a0 a1 a2 a3 k
 unfold laws_mnChances.f
 repeat' first
   | (with_reducible exact laws_mnInts.mono _ _ _)
   | (with_reducible exact laws_mnRows.mono _ _ _)
   | (with_reducible exact LeO.refl _)
   | (with_reducible exact LeO.none _)
   | (with_reducible refine LeO.ite ?_ ?_)
   | (with_reducible refine LeO.bind ?_ (fun _=>?_))
   | exact laws_mnInts.mono _ _ _
   | exact laws_mnRows.mono _ _ _
   | exact LeO.none _
   | refine LeO.ite ?_ ?_
   | refine LeO.bind ?_ (fun _=>?_)
set_option maxHeartbeats 8000000 in
set_option maxRecDepth 100000 in
theorem laws_mnChances.calls (k:Nat) (A0_0:Option Addr) (c0_0:Nat) (l0_0:List Int) (A0_1:Option Addr) (c0_1:Nat) (l0_1:List (List Int)) (A1_0:Option Addr) (c1_0:Nat) (l1_0:List Int) (A1_1:Option Addr) (c1_1:Nat) (l1_1:List (List Int)) (r:Bool) (w:World) (hr0_0:Kd.C (Kd.int .i64) w A0_0 l0_0.length l0_0) (hc0_0:l0_0.length ≤ c0_0) (hr0_1:Kd.C (Kd.slice 3 (Kd.int .i64)) w A0_1 l0_1.length l0_1) (hc0_1:l0_1.length ≤ c0_1) (hr1_0:Kd.C (Kd.int .i64) w A1_0 l1_0.length l1_0) (hc1_0:l1_0.length ≤ c1_0) (hr1_1:Kd.C (Kd.slice 3 (Kd.int .i64)) w A1_1 l1_1.length l1_1) (hc1_1:l1_1.length ≤ c1_1) (h:laws_mnChances.f k l0_0 l0_1 l1_0 l1_1 = some r) :
  Calls Try.prog 36 #[.agg #[.slice A0_0 l0_0.length c0_0,.slice A0_1 l0_1.length c0_1],.agg #[.slice A1_0 l1_0.length c1_0,.slice A1_1 l1_1.length c1_1]] w fun e w'=>e = .returned (.bool r)∧Below w.heap.size w w':=by
 have hu28:=Try.underlying28
 have HR0_0:=Aside0.mk hr0_0
 have HC0_0:=Aside0.mk hc0_0
 clear hr0_0 hc0_0
 have HR0_1:=Aside0.mk hr0_1
 have HC0_1:=Aside0.mk hc0_1
 clear hr0_1 hc0_1
 have HR1_0:=Aside0.mk hr1_0
 have HC1_0:=Aside0.mk hc1_0
 clear hr1_0 hc1_0
 have HR1_1:=Aside0.mk hr1_1
 have HC1_1:=Aside0.mk hc1_1
 clear hr1_1 hc1_1
 have HB:=Aside0.mk (Below.refl w.heap.size w)
 have H:((laws_mnInts.f k l0_0 l1_0).bind fun t655=>(if t655 = true then ((laws_mnRows.f k l0_1 l1_1).bind fun t656=>(some t656)) else (some false))) = some r:=h
 clear h
 replace H:=Option.bind_eq_some_iff.mp H
 obtain ⟨t655,A30,H⟩:=H
 replace H:(if t655 = true then ((laws_mnRows.f k l0_1 l1_1).bind fun t656=>(some t656)) else (some false)) = some r:=H
 have A3:=Aside0.mk A30
 clear A30
 by_cases c4:t655 = true
 ·subst c4
  have H1:((laws_mnRows.f k l0_1 l1_1).bind fun t656=>(some t656)) = some r:=by rw [if_pos rfl] at H;exact H
  clear H
  have H:=H1
  clear H1
  replace H:=Option.bind_eq_some_iff.mp H
  obtain ⟨t656,A50,H⟩:=H
  replace H:(some t656) = some r:=H
  have A5:=Aside0.mk A50
  clear A50
  obtain rfl:=Option.some.inj H
  go_enter Try.func36,Try.ntmps36
  go_wp2_with (first | ((with_reducible refine gate_dst (N:=2) rfl ?_);refine box_event ?hg (N:=2) ?hd (cs:=#[.slice A0_0 l0_0.length c0_0,.slice A0_1 l0_1.length c0_1]) (t:=28) ?hr ?_;(case hd=>rfl);(case hg=>rfl);(case hr=>first | (go_simp;done) | (go_simp;rfl));intro gb653 hg w6 hbox hb;have n0_:=Aside0.mk (below_step (by repeat (with_reducible first | exact HB.out | apply below_alloc | apply pw_below_drewN | apply below_drew1)) hb);have n1_:=Aside0.mk (hbox);have n2_:=Aside0.mk ((by rw [hg];exact (below_size (by repeat (with_reducible first | exact HB.out | apply below_alloc | apply pw_below_drewN | apply below_drew1))):w.heap.size ≤ gb653));have n3_:=Aside0.mk ((by rw [hg];exact (below_size (by repeat (with_reducible first | exact HB.out | apply below_alloc | apply pw_below_drewN | apply below_drew1))):w.heap.size ≤ gb653));clear HB;have HB:=n0_;have BK653:=n1_;have GW653:=n2_;have GE653:=n3_;clear n0_ n1_ n2_ n3_;clear hb hbox hg) | ((with_reducible refine gate_dst (N:=3) rfl ?_);refine box_event ?hg (N:=3) ?hd (cs:=#[.slice A1_0 l1_0.length c1_0,.slice A1_1 l1_1.length c1_1]) (t:=28) ?hr ?_;(case hd=>rfl);(case hg=>rfl);(case hr=>first | (go_simp;done) | (go_simp;rfl));intro gb654 hg w7 hbox hb;have n0_:=Aside0.mk (blk_below (g:=gb653) (o:=.cells #[.slice A0_0 l0_0.length c0_0,.slice A0_1 l0_1.length c0_1] 28 (0,0)) (by (with_reducible repeat (first | refine blk_drewN ?_ _ | refine blk_drew ?_ | refine blk_alloc ?_ _));exact BK653.out) hb);have n1_:=Aside0.mk (below_step (by repeat (with_reducible first | exact HB.out | apply below_alloc | apply pw_below_drewN | apply below_drew1 | refine below_set ?_ GE653.out)) hb);have n2_:=Aside0.mk (hbox);have n3_:=Aside0.mk ((by rw [hg];exact (below_size (by repeat (with_reducible first | exact HB.out | apply below_alloc | apply pw_below_drewN | apply below_drew1 | refine below_set ?_ GE653.out))):w.heap.size ≤ gb654));have n4_:=Aside0.mk ((by rw [hg];exact (below_size (by repeat (with_reducible first | exact HB.out | apply below_alloc | apply pw_below_drewN | apply below_drew1 | refine below_set ?_ GE653.out))):w.heap.size ≤ gb654));have n5_:=Aside0.mk ((by rw [hg];exact Nat.ne_of_lt (blk_lt (g:=gb653) (o:=.cells #[.slice A0_0 l0_0.length c0_0,.slice A0_1 l0_1.length c0_1] 28 (0,0)) (by (with_reducible repeat (first | refine blk_drewN ?_ _ | refine blk_drew ?_ | refine blk_alloc ?_ _));exact BK653.out)):gb653 ≠ gb654));have n6_:=Aside0.mk ((by rw [hg];exact Nat.ne_of_gt (blk_lt (g:=gb653) (o:=.cells #[.slice A0_0 l0_0.length c0_0,.slice A0_1 l0_1.length c0_1] 28 (0,0)) (by (with_reducible repeat (first | refine blk_drewN ?_ _ | refine blk_drew ?_ | refine blk_alloc ?_ _));exact BK653.out)):gb654 ≠ gb653));clear BK653;clear HB;have BK653:=n0_;have HB:=n1_;have BK654:=n2_;have GW654:=n3_;have GE654:=n4_;have NB653_654:=n5_;have NB654_653:=n6_;clear n0_ n1_ n2_ n3_ n4_ n5_ n6_;clear hb hbox hg;have hnb8:=NB653_654.out;have hnc8:=NB654_653.out;have hcz9_0:w7.cell? ⟨gb653,0,none⟩ = some (.slice A0_0 l0_0.length c0_0):=(blk_cell BK653.out 0).trans rfl;have hcz9_1:w7.cell? ⟨gb653,1,none⟩ = some (.slice A0_1 l0_1.length c0_1):=(blk_cell BK653.out 1).trans rfl;have hfz9_0:=blk_frozen BK653.out 0;have hfz9_1:=blk_frozen BK653.out 1;have hcz10_0:w7.cell? ⟨gb654,0,none⟩ = some (.slice A1_0 l1_0.length c1_0):=(blk_cell BK654.out 0).trans rfl;have hcz10_1:w7.cell? ⟨gb654,1,none⟩ = some (.slice A1_1 l1_1.length c1_1):=(blk_cell BK654.out 1).trans rfl;have hfz10_0:=blk_frozen BK654.out 0;have hfz10_1:=blk_frozen BK654.out 1) | ((with_reducible refine gate_callee (f:=24) rfl ?_);refine goesL_ (some 9) rfl rfl Try.func24 (by kernel_rfl) rfl #[.slice A0_0 l0_0.length c0_0,.slice A1_0 l1_0.length c1_0] rfl (by (try simp only [List.map_toArray,List.map_cons,List.map_nil]);first | done | rfl | (simp only [List.length_drop,List.length_take];rfl)) ?_;(with_reducible refine (laws_mnInts.calls k _ _ l0_0 _ _ l1_0 true _ ?side1 ?side2 ?side3 ?side4 A3.out).mono ?_);(case side1=>repeat (first | exact (Kd.C_below HR0_0.out HB.out) | (with_reducible refine Kd.C_alloc ?_ _) | (with_reducible refine Kd.C_drewN ?_ _) | (with_reducible refine Kd.C_drew ?_)));(case side2=>exact HC0_0.out);(case side3=>repeat (first | exact (Kd.C_below HR1_0.out HB.out) | (with_reducible refine Kd.C_alloc ?_ _) | (with_reducible refine Kd.C_drewN ?_ _) | (with_reducible refine Kd.C_drew ?_)));(case side4=>exact HC1_0.out);rintro e w' ⟨rfl,⟨nd,rfl⟩⟩;refine ⟨_,rfl,?_⟩) | (go_at_call 58;(with_reducible refine (laws_mnRows.calls k _ _ l0_1 _ _ l1_1 t656 _ ?side1 ?side2 ?side3 ?side4 A5.out).mono ?_);(case side1=>repeat (first | exact (Kd.C_below HR0_1.out (by repeat (with_reducible first | exact HB.out | apply below_alloc | apply pw_below_drewN | apply below_drew1 | refine below_set ?_ GE653.out | refine below_set ?_ GE654.out))) | (with_reducible refine Kd.C_alloc ?_ _) | (with_reducible refine Kd.C_drewN ?_ _) | (with_reducible refine Kd.C_drew ?_)));(case side2=>exact HC0_1.out);(case side3=>repeat (first | exact (Kd.C_below HR1_1.out (by repeat (with_reducible first | exact HB.out | apply below_alloc | apply pw_below_drewN | apply below_drew1 | refine below_set ?_ GE653.out | refine below_set ?_ GE654.out))) | (with_reducible refine Kd.C_alloc ?_ _) | (with_reducible refine Kd.C_drewN ?_ _) | (with_reducible refine Kd.C_drew ?_)));(case side4=>exact HC1_1.out);rintro e w' ⟨rfl,⟨nd,rfl⟩⟩))
  go_ret
  exact ⟨rfl,by repeat (with_reducible first | exact HB.out | apply below_alloc | apply pw_below_drewN | apply below_drew1 | refine below_set ?_ GE653.out | refine below_set ?_ GE654.out)⟩
 ·replace c4:=Bool.eq_false_iff.mpr c4
  subst c4
  have H1:(some false) = some r:=by rw [if_neg (show ¬ (false = true) by decide)] at H;exact H
  clear H
  have H:=H1
  clear H1
  obtain rfl:=Option.some.inj H
  go_enter Try.func36,Try.ntmps36
  go_wp2_with (first | ((with_reducible refine gate_dst (N:=2) rfl ?_);refine box_event ?hg (N:=2) ?hd (cs:=#[.slice A0_0 l0_0.length c0_0,.slice A0_1 l0_1.length c0_1]) (t:=28) ?hr ?_;(case hd=>rfl);(case hg=>rfl);(case hr=>first | (go_simp;done) | (go_simp;rfl));intro gb653 hg w11 hbox hb;have n0_:=Aside0.mk (below_step (by repeat (with_reducible first | exact HB.out | apply below_alloc | apply pw_below_drewN | apply below_drew1)) hb);have n1_:=Aside0.mk (hbox);have n2_:=Aside0.mk ((by rw [hg];exact (below_size (by repeat (with_reducible first | exact HB.out | apply below_alloc | apply pw_below_drewN | apply below_drew1))):w.heap.size ≤ gb653));have n3_:=Aside0.mk ((by rw [hg];exact (below_size (by repeat (with_reducible first | exact HB.out | apply below_alloc | apply pw_below_drewN | apply below_drew1))):w.heap.size ≤ gb653));clear HB;have HB:=n0_;have BK653:=n1_;have GW653:=n2_;have GE653:=n3_;clear n0_ n1_ n2_ n3_;clear hb hbox hg) | ((with_reducible refine gate_dst (N:=3) rfl ?_);refine box_event ?hg (N:=3) ?hd (cs:=#[.slice A1_0 l1_0.length c1_0,.slice A1_1 l1_1.length c1_1]) (t:=28) ?hr ?_;(case hd=>rfl);(case hg=>rfl);(case hr=>first | (go_simp;done) | (go_simp;rfl));intro gb654 hg w12 hbox hb;have n0_:=Aside0.mk (blk_below (g:=gb653) (o:=.cells #[.slice A0_0 l0_0.length c0_0,.slice A0_1 l0_1.length c0_1] 28 (0,0)) (by (with_reducible repeat (first | refine blk_drewN ?_ _ | refine blk_drew ?_ | refine blk_alloc ?_ _));exact BK653.out) hb);have n1_:=Aside0.mk (below_step (by repeat (with_reducible first | exact HB.out | apply below_alloc | apply pw_below_drewN | apply below_drew1 | refine below_set ?_ GE653.out)) hb);have n2_:=Aside0.mk (hbox);have n3_:=Aside0.mk ((by rw [hg];exact (below_size (by repeat (with_reducible first | exact HB.out | apply below_alloc | apply pw_below_drewN | apply below_drew1 | refine below_set ?_ GE653.out))):w.heap.size ≤ gb654));have n4_:=Aside0.mk ((by rw [hg];exact (below_size (by repeat (with_reducible first | exact HB.out | apply below_alloc | apply pw_below_drewN | apply below_drew1 | refine below_set ?_ GE653.out))):w.heap.size ≤ gb654));have n5_:=Aside0.mk ((by rw [hg];exact Nat.ne_of_lt (blk_lt (g:=gb653) (o:=.cells #[.slice A0_0 l0_0.length c0_0,.slice A0_1 l0_1.length c0_1] 28 (0,0)) (by (with_reducible repeat (first | refine blk_drewN ?_ _ | refine blk_drew ?_ | refine blk_alloc ?_ _));exact BK653.out)):gb653 ≠ gb654));have n6_:=Aside0.mk ((by rw [hg];exact Nat.ne_of_gt (blk_lt (g:=gb653) (o:=.cells #[.slice A0_0 l0_0.length c0_0,.slice A0_1 l0_1.length c0_1] 28 (0,0)) (by (with_reducible repeat (first | refine blk_drewN ?_ _ | refine blk_drew ?_ | refine blk_alloc ?_ _));exact BK653.out)):gb654 ≠ gb653));clear BK653;clear HB;have BK653:=n0_;have HB:=n1_;have BK654:=n2_;have GW654:=n3_;have GE654:=n4_;have NB653_654:=n5_;have NB654_653:=n6_;clear n0_ n1_ n2_ n3_ n4_ n5_ n6_;clear hb hbox hg;have hnb13:=NB653_654.out;have hnc13:=NB654_653.out;have hcz14_0:w12.cell? ⟨gb653,0,none⟩ = some (.slice A0_0 l0_0.length c0_0):=(blk_cell BK653.out 0).trans rfl;have hcz14_1:w12.cell? ⟨gb653,1,none⟩ = some (.slice A0_1 l0_1.length c0_1):=(blk_cell BK653.out 1).trans rfl;have hfz14_0:=blk_frozen BK653.out 0;have hfz14_1:=blk_frozen BK653.out 1;have hcz15_0:w12.cell? ⟨gb654,0,none⟩ = some (.slice A1_0 l1_0.length c1_0):=(blk_cell BK654.out 0).trans rfl;have hcz15_1:w12.cell? ⟨gb654,1,none⟩ = some (.slice A1_1 l1_1.length c1_1):=(blk_cell BK654.out 1).trans rfl;have hfz15_0:=blk_frozen BK654.out 0;have hfz15_1:=blk_frozen BK654.out 1) | ((with_reducible refine gate_callee (f:=24) rfl ?_);refine goesL_ (some 9) rfl rfl Try.func24 (by kernel_rfl) rfl #[.slice A0_0 l0_0.length c0_0,.slice A1_0 l1_0.length c1_0] rfl (by (try simp only [List.map_toArray,List.map_cons,List.map_nil]);first | done | rfl | (simp only [List.length_drop,List.length_take];rfl)) ?_;(with_reducible refine (laws_mnInts.calls k _ _ l0_0 _ _ l1_0 false _ ?side1 ?side2 ?side3 ?side4 A3.out).mono ?_);(case side1=>repeat (first | exact (Kd.C_below HR0_0.out HB.out) | (with_reducible refine Kd.C_alloc ?_ _) | (with_reducible refine Kd.C_drewN ?_ _) | (with_reducible refine Kd.C_drew ?_)));(case side2=>exact HC0_0.out);(case side3=>repeat (first | exact (Kd.C_below HR1_0.out HB.out) | (with_reducible refine Kd.C_alloc ?_ _) | (with_reducible refine Kd.C_drewN ?_ _) | (with_reducible refine Kd.C_drew ?_)));(case side4=>exact HC1_0.out);rintro e w' ⟨rfl,⟨nd,rfl⟩⟩;refine ⟨_,rfl,?_⟩))
  go_ret
  exact ⟨rfl,by repeat (with_reducible first | exact HB.out | apply below_alloc | apply pw_below_drewN | apply below_drew1 | refine below_set ?_ GE653.out | refine below_set ?_ GE654.out)⟩
end Go.Proofs.Ytablnoddkllhmaa.P
