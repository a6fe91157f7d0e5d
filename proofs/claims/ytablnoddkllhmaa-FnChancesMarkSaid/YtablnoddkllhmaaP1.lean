/- What the Go functions that the laws reach compute, and that their calls come to just that: told by a program of this session (aprint.py). No condition. -/
import Derived.Test.YtablnoddkllhmaaP0
namespace Go.Proofs.Ytablnoddkllhmaa.P
open Go.RowKit Go.Proofs.YtablnoddkllhmaaW.PrintWords Go.Proofs.YtablnoddkllhmaaW.PrintLast Go.Proofs.YtablnoddkllhmaaW.PrintMore
attribute [local go_sem] max2_int min2_int max_two min_two max_three min_three max_four min_four
set_option linter.unusedVariables false
set_option linter.unusedSimpArgs false
def IsS67 (w0 W:World) (g:Nat) (f0:List Int) (f1:Int):Prop:=∃ A0 c0,W.heap[g]? = some (.cells #[.slice A0 f0.length c0,.int .i64 f1] 67 (0,0))∧w0.heap.size ≤ g∧Kd.C (Kd.int .u8) w0 A0 f0.length f0
theorem IsS67.grown {w0 W:World} {g:Nat} {f0:List Int} {f1:Int} {W1:World} {row:Option Nat} (h:IsS67 w0 W g f0 f1) (hw:W.grownBy W1 row) (hne:some g ≠ row):IsS67 w0 W1 g f0 f1:=by
 obtain ⟨A0,c0,hb,hg,hr0⟩:=h
 exact ⟨A0,c0,blk_grown hb hw hne,hg,hr0⟩
theorem IsS67.own_neN {w0 W:World} {g:Nat} {f0:List Int} {f1:Int} {α:Type} {d:Kd α} {e:Nat} {base:Nat} {ok:Nat → Prop} {v:Value} {xs:List α} (h:IsS67 w0 W g f0 f1) (ho:Kd.N d e W base ok v xs) (ht:e ≠ 67):some g ≠ v.ownBlock:=by
 obtain ⟨A0,c0,hb,hg,hr0⟩:=h
 exact Kd.N_ne ho hb ht
theorem IsS67.fresh {w0 W:World} {g:Nat} {f0:List Int} {f1:Int} (h:IsS67 w0 W g f0 f1):∀ k,W.heap.size ≤ k → k ≠ g:=by
 obtain ⟨A0,c0,hb,hg,hr0⟩:=h
 exact Kd.freshB hb
theorem IsS67.below {w0 W:World} {g:Nat} {f0:List Int} {f1:Int} {W1:World} (h:IsS67 w0 W g f0 f1) (hw:Below W.heap.size W W1):IsS67 w0 W1 g f0 f1:=h.grown (grown_of_below hw none) (by simp)
theorem IsS67.alloc {w0 W:World} {g:Nat} {f0:List Int} {f1:Int} (h:IsS67 w0 W g f0 f1) (o:Obj):IsS67 w0 (W.alloc o) g f0 f1:=h.below (below_alloc (Below.refl _ _) o)
theorem IsS67.drewN {w0 W:World} {g:Nat} {f0:List Int} {f1:Int} (h:IsS67 w0 W g f0 f1) (m:Nat):IsS67 w0 (W.drewN m) g f0 f1:=h
theorem IsS67.drew {w0 W:World} {g:Nat} {f0:List Int} {f1:Int} (h:IsS67 w0 W g f0 f1):IsS67 w0 W.drew g f0 f1:=h
theorem IsS67.apart {w0 W:World} {g:Nat} {f0:List Int} {f1:Int} {α:Type} {d:Kd α} {e:Nat} {base:Nat} {ok:Nat → Prop} {v:Value} {xs:List α} (h:IsS67 w0 W g f0 f1) (ho:d.R e W base ok v xs) (ht:∀ q,q ∈ e :: d.E → q ≠ 67):d.R e W base (fun k=>ok k∧k ≠ g) v xs:=by
 obtain ⟨A0,c0,hb,hg,hr0⟩:=h
 exact Kd.R_types ho hb ht
theorem IsS67.own_ne {w0 W:World} {g:Nat} {f0:List Int} {f1:Int} {α:Type} {d:Kd α} {e:Nat} {base:Nat} {ok:Nat → Prop} {v:Value} {xs:List α} (h:IsS67 w0 W g f0 f1) (ho:d.R e W base ok v xs) (ht:e ≠ 67):some g ≠ v.ownBlock:=by
 obtain ⟨A0,c0,hb,hg,hr0⟩:=h
 exact Kd.R_ne ho hb ht
theorem IsS67.apartS {w0 W:World} {g:Nat} {f0:List Int} {f1:Int} {α:Type} {d:Kd α} {e:Nat} {base:Nat} {ok:Nat → Prop} {v:Value} {xs:List α} (h:IsS67 w0 W g f0 f1) (ho:d.S e W base ok v xs) (ht:∀ q,q ∈ e :: d.E → q ≠ 67):d.S e W base (fun k=>ok k∧k ≠ g) v xs:=by
 obtain ⟨A0,c0,hb,hg,hr0⟩:=h
 exact Kd.S_types ho hb ht
theorem IsS67.own_neS {w0 W:World} {g:Nat} {f0:List Int} {f1:Int} {α:Type} {d:Kd α} {e:Nat} {base:Nat} {ok:Nat → Prop} {v:Value} {xs:List α} (h:IsS67 w0 W g f0 f1) (ho:d.S e W base ok v xs) (ht:e ≠ 67):some g ≠ v.ownBlock:=by
 obtain ⟨A0,c0,hb,hg,hr0⟩:=h
 exact Kd.S_ne ho hb ht
theorem IsS67.lt {w0 W:World} {g:Nat} {f0:List Int} {f1:Int} (h:IsS67 w0 W g f0 f1):g < W.heap.size:=by
 obtain ⟨A0,c0,hb,hg,hr0⟩:=h
 exact blk_lt hb
theorem IsS67.ge {w0 W:World} {g:Nat} {f0:List Int} {f1:Int} (h:IsS67 w0 W g f0 f1):w0.heap.size ≤ g:=by
 obtain ⟨A0,c0,hb,hg,hr0⟩:=h
 exact hg
theorem IsS67.ne_blk {w0 W:World} {g:Nat} {f0:List Int} {f1:Int} {a:Nat} {cs:Array Value} {t:TypeId} {fr:Nat × Nat} (h:IsS67 w0 W g f0 f1) (hb2:W.heap[a]? = some (.cells cs t fr)) (ht:t ≠ 67):g ≠ a:=by
 obtain ⟨A0,c0,hb,hg,hr0⟩:=h
 rintro rfl
 rw [hb] at hb2
 injection hb2 with hb2
 injection hb2 with _ ht2
 exact ht ht2.symm
theorem IsS67.far {w0 W:World} {g:Nat} {f0:List Int} {f1:Int} {p:Addr} (h:IsS67 w0 W g f0 f1) (hne:g ≠ p.block) (u:Value):IsS67 w0 (W.setCell p u) g f0 f1:=by
 obtain ⟨A0,c0,hb,hg,hr0⟩:=h
 exact ⟨A0,c0,blk_far hb hne u,hg,hr0⟩
theorem cellS67_0 {W:World} {g:Nat} {A0:Option Addr} {c0:Nat} {f0:List Int} {f1:Int} (h:W.heap[g]? = some (.cells #[.slice A0 f0.length c0,.int .i64 f1] 67 (0,0))):W.cell? ⟨g,0,none⟩ = some (.slice A0 f0.length c0):=(blk_cell h 0).trans rfl
theorem cellS67_1 {W:World} {g:Nat} {A0:Option Addr} {c0:Nat} {f0:List Int} {f1:Int} (h:W.heap[g]? = some (.cells #[.slice A0 f0.length c0,.int .i64 f1] 67 (0,0))):W.cell? ⟨g,1,none⟩ = some (.int .i64 f1):=(blk_cell h 1).trans rfl
theorem IsS67.set_1 {w0 W:World} {g:Nat} {f0:List Int} {f1:Int} (h:IsS67 w0 W g f0 f1) (x:Int):IsS67 w0 (W.setCell ⟨g,1,none⟩ (.int .i64 x)) g f0 x:=by
 obtain ⟨A0,c0,hb,hg,hr0⟩:=h
 exact ⟨A0,c0,by simpa using blk_set hb 1 (.int .i64 x),hg,hr0⟩
def spec_l6In.f (a0:Int) (a1:Int) (a2:Int):Option (Bool):=if a0 ≥ a1 then (some (decide (a0 ≤ a2))) else (some false)
set_option maxHeartbeats 8000000 in
set_option maxRecDepth 100000 in
theorem spec_l6In.calls (a0:Int) (a1:Int) (a2:Int) (r:Bool) (w:World) (h:spec_l6In.f a0 a1 a2 = some r) :
  Calls Try.prog 40 #[.int .i64 a0,.int .i64 a1,.int .i64 a2] w fun e w'=>e = .returned (.bool r)∧Drawn0 w w':=by
 have H:(if a0 ≥ a1 then (some (decide (a0 ≤ a2))) else (some false)) = some r:=h
 clear h
 by_cases c4:a0 ≥ a1
 ·rw [if_pos c4] at H
  have c4b0:decide (a1 ≤ a0) = true:=decide_eq_true c4
  clear c4
  obtain rfl:=Option.some.inj H
  go_enter Try.func40,Try.ntmps40
  go_wp2
  go_ret
  exact ⟨by first | rfl | (simp;done) | (simp [*];done),by repeat (first | exact Drawn0.refl _ | apply Drawn0.step)⟩
 ·rw [if_neg c4] at H
  have c4b0:decide (a1 ≤ a0) = false:=decide_eq_false c4
  clear c4
  obtain rfl:=Option.some.inj H
  go_enter Try.func40,Try.ntmps40
  go_wp2
  go_ret
  exact ⟨by first | rfl | (simp;done) | (simp [*];done),by repeat (first | exact Drawn0.refl _ | apply Drawn0.step)⟩
mutual
def spec_ChancesOk.j0:Nat → Int → Bool → List Int → List (List Int) → Option (Bool)
 | 0,_,_,_,_=>none
 | k + 1,x3,x19,x107000,x107001=>if x19 = true then (some false) else (spec_ChancesOk.l0 k x3 0 x107000 x107001)
def spec_ChancesOk.l0:Nat → Int → Int → List Int → List (List Int) → Option (Bool)
 | 0,_,_,_,_=>none
 | k + 1,x3,x4,x107000,x107001=>if x4 < x3 then (if 0 ≤ x4 then (if x4 < (x107000.length:Int) then ((spec_l6In.f (rd x107000 x4) 0 9).bind fun t109=>(if t109 = true then (if x4 < (x107001.length:Int) then (spec_ChancesOk.j2 k x3 x4 (((rd_L1 x107001 x4).length:Int) != x3) x107000 x107001) else (none)) else (spec_ChancesOk.j2 k x3 x4 true x107000 x107001))) else (none)) else (none)) else (some true)
def spec_ChancesOk.j2:Nat → Int → Int → Bool → List Int → List (List Int) → Option (Bool)
 | 0,_,_,_,_,_=>none
 | k + 1,x3,x4,x41,x107000,x107001=>if x41 = true then (some false) else (spec_ChancesOk.l1 k x3 x4 0 0 x107000 x107001)
def spec_ChancesOk.l1:Nat → Int → Int → Int → Int → List Int → List (List Int) → Option (Bool)
 | 0,_,_,_,_,_,_=>none
 | k + 1,x3,x4,x5,x6,x107000,x107001=>if x6 < x3 then (if 0 ≤ x4 then (if x4 < (x107001.length:Int) then (if 0 ≤ x6 then (if x6 < ((rd_L1 x107001 x4).length:Int) then ((spec_l6In.f (rd (rd_L1 x107001 x4) x6) 0 6).bind fun t113=>(if t113 = true then (spec_ChancesOk.l1 k x3 x4 (wrap64 (x5 + (rd (rd_L1 x107001 x4) x6))) (wrap64 (x6 + 1)) x107000 x107001) else (some false))) else (none)) else (none)) else (none)) else (none)) else (if x5 = 6 then (spec_ChancesOk.l0 k x3 (wrap64 (x4 + 1)) x107000 x107001) else (some false))
end
def spec_ChancesOk.f (k:Nat) (l0_0:List Int) (l0_1:List (List Int)):Option (Bool):=(spec_l6In.f (l0_0.length:Int) 1 60).bind fun t107=>(if t107 = true then (spec_ChancesOk.j0 k (l0_0.length:Int) ((l0_1.length:Int) != (l0_0.length:Int)) l0_0 l0_1) else (spec_ChancesOk.j0 k (l0_0.length:Int) true l0_0 l0_1))
theorem spec_ChancesOk.mono_l:∀ k,(∀ y0 y1 y2 y3,LeO (spec_ChancesOk.j0 k y0 y1 y2 y3) (spec_ChancesOk.j0 (k + 1) y0 y1 y2 y3))∧(∀ y0 y1 y2 y3,LeO (spec_ChancesOk.l0 k y0 y1 y2 y3) (spec_ChancesOk.l0 (k + 1) y0 y1 y2 y3))∧(∀ y0 y1 y2 y3 y4,LeO (spec_ChancesOk.j2 k y0 y1 y2 y3 y4) (spec_ChancesOk.j2 (k + 1) y0 y1 y2 y3 y4))∧(∀ y0 y1 y2 y3 y4 y5,LeO (spec_ChancesOk.l1 k y0 y1 y2 y3 y4 y5) (spec_ChancesOk.l1 (k + 1) y0 y1 y2 y3 y4 y5))
 | 0=>⟨fun _ _ _ _ r h=>by simp [spec_ChancesOk.j0] at h,fun _ _ _ _ r h=>by simp [spec_ChancesOk.l0] at h,fun _ _ _ _ _ r h=>by simp [spec_ChancesOk.j2] at h,fun _ _ _ _ _ _ r h=>by simp [spec_ChancesOk.l1] at h⟩
 | k + 1=>by
  obtain ⟨ih0,ih1,ih2,ih3⟩:=spec_ChancesOk.mono_l k
  refine ⟨?_,?_,?_,?_⟩
  ·intro y0 y1 y2 y3
   unfold spec_ChancesOk.j0
   repeat' first
   | (with_reducible exact ih0 _ _ _ _)
   | (with_reducible exact ih1 _ _ _ _)
   | (with_reducible exact ih2 _ _ _ _ _)
   | (with_reducible exact ih3 _ _ _ _ _ _)
   | (with_reducible exact LeO.refl _)
   | (with_reducible exact LeO.none _)
   | (with_reducible refine LeO.ite ?_ ?_)
   | (with_reducible refine LeO.bind ?_ (fun _=>?_))
   | exact ih0 _ _ _ _
   | exact ih1 _ _ _ _
   | exact ih2 _ _ _ _ _
   | exact ih3 _ _ _ _ _ _
   | exact LeO.none _
   | refine LeO.ite ?_ ?_
   | refine LeO.bind ?_ (fun _=>?_)
  ·intro y0 y1 y2 y3
   unfold spec_ChancesOk.l0
   repeat' first
   | (with_reducible exact ih0 _ _ _ _)
   | (with_reducible exact ih1 _ _ _ _)
   | (with_reducible exact ih2 _ _ _ _ _)
   | (with_reducible exact ih3 _ _ _ _ _ _)
   | (with_reducible exact LeO.refl _)
   | (with_reducible exact LeO.none _)
   | (with_reducible refine LeO.ite ?_ ?_)
   | (with_reducible refine LeO.bind ?_ (fun _=>?_))
   | exact ih0 _ _ _ _
   | exact ih1 _ _ _ _
   | exact ih2 _ _ _ _ _
   | exact ih3 _ _ _ _ _ _
   | exact LeO.none _
   | refine LeO.ite ?_ ?_
   | refine LeO.bind ?_ (fun _=>?_)
  ·intro y0 y1 y2 y3 y4
   unfold spec_ChancesOk.j2
   repeat' first
   | (with_reducible exact ih0 _ _ _ _)
   | (with_reducible exact ih1 _ _ _ _)
   | (with_reducible exact ih2 _ _ _ _ _)
   | (with_reducible exact ih3 _ _ _ _ _ _)
   | (with_reducible exact LeO.refl _)
   | (with_reducible exact LeO.none _)
   | (with_reducible refine LeO.ite ?_ ?_)
   | (with_reducible refine LeO.bind ?_ (fun _=>?_))
   | exact ih0 _ _ _ _
   | exact ih1 _ _ _ _
   | exact ih2 _ _ _ _ _
   | exact ih3 _ _ _ _ _ _
   | exact LeO.none _
   | refine LeO.ite ?_ ?_
   | refine LeO.bind ?_ (fun _=>?_)
  ·intro y0 y1 y2 y3 y4 y5
   unfold spec_ChancesOk.l1
   repeat' first
   | (with_reducible exact ih0 _ _ _ _)
   | (with_reducible exact ih1 _ _ _ _)
   | (with_reducible exact ih2 _ _ _ _ _)
   | (with_reducible exact ih3 _ _ _ _ _ _)
   | (with_reducible exact LeO.refl _)
   | (with_reducible exact LeO.none _)
   | (with_reducible refine LeO.ite ?_ ?_)
   | (with_reducible refine LeO.bind ?_ (fun _=>?_))
   | exact ih0 _ _ _ _
   | exact ih1 _ _ _ _
   | exact ih2 _ _ _ _ _
   | exact ih3 _ _ _ _ _ _
   | exact LeO.none _
   | refine LeO.ite ?_ ?_
   | refine LeO.bind ?_ (fun _=>?_)
theorem spec_ChancesOk.mono:∀ a0 a1 k,LeO (spec_ChancesOk.f k a0 a1) (spec_ChancesOk.f (k + 1) a0 a1):=by
 intro a0 a1 k
 obtain ⟨ih0,ih1,ih2,ih3⟩:=spec_ChancesOk.mono_l k
 unfold spec_ChancesOk.f
 repeat' first
   | (with_reducible exact ih0 _ _ _ _)
   | (with_reducible exact ih1 _ _ _ _)
   | (with_reducible exact ih2 _ _ _ _ _)
   | (with_reducible exact ih3 _ _ _ _ _ _)
   | (with_reducible exact LeO.refl _)
   | (with_reducible exact LeO.none _)
   | (with_reducible refine LeO.ite ?_ ?_)
   | (with_reducible refine LeO.bind ?_ (fun _=>?_))
   | exact ih0 _ _ _ _
   | exact ih1 _ _ _ _
   | exact ih2 _ _ _ _ _
   | exact ih3 _ _ _ _ _ _
   | exact LeO.none _
   | refine LeO.ite ?_ ?_
   | refine LeO.bind ?_ (fun _=>?_)
set_option maxHeartbeats 8000000 in
set_option maxRecDepth 100000 in
theorem spec_ChancesOk.calls (k:Nat) (A0_0:Option Addr) (c0_0:Nat) (l0_0:List Int) (A0_1:Option Addr) (c0_1:Nat) (l0_1:List (List Int)) (r:Bool) (w:World) (hr0_0:Kd.C (Kd.int .i64) w A0_0 l0_0.length l0_0) (hc0_0:l0_0.length ≤ c0_0) (hr0_1:Kd.C (Kd.slice 3 (Kd.int .i64)) w A0_1 l0_1.length l0_1) (hc0_1:l0_1.length ≤ c0_1) (h:spec_ChancesOk.f k l0_0 l0_1 = some r) :
  Calls Try.prog 14 #[.agg #[.slice A0_0 l0_0.length c0_0,.slice A0_1 l0_1.length c0_1]] w fun e w'=>e = .returned (.bool r)∧Below w.heap.size w w':=by
 have hu28:=Try.underlying28
 have HR0_0:=Aside0.mk hr0_0
 have HC0_0:=Aside0.mk hc0_0
 clear hr0_0 hc0_0
 have HR0_1:=Aside0.mk hr0_1
 have HC0_1:=Aside0.mk hc0_1
 clear hr0_1 hc0_1
 have HB:=Aside0.mk (Below.refl w.heap.size w)
 have H:((spec_l6In.f (l0_0.length:Int) 1 60).bind fun t107=>(if t107 = true then (spec_ChancesOk.j0 k (l0_0.length:Int) ((l0_1.length:Int) != (l0_0.length:Int)) l0_0 l0_1) else (spec_ChancesOk.j0 k (l0_0.length:Int) true l0_0 l0_1))) = some r:=h
 clear h
 have HC2:=Aside0.mk H
 clear H
 go_enter Try.func14,Try.ntmps14
 go_upto_region 2 with (first | ((with_reducible refine gate_dst (N:=1) rfl ?_);(try (refine gate_guard (by rfl) ?_;dsimp only));refine box_event ?hg (N:=1) ?hd (cs:=#[.slice A0_0 l0_0.length c0_0,.slice A0_1 l0_1.length c0_1]) (t:=28) ?hr ?_;(case hd=>rfl);(case hg=>rfl);(case hr=>first | (go_simp;done) | (go_simp;rfl));intro gb106 hg w3 hbox hb;have n0_:=Aside0.mk (below_step (by exact HB.out) hb);have n1_:=Aside0.mk (hbox);have n2_:=Aside0.mk ((by rw [hg];exact (below_size (by exact HB.out)):w.heap.size ≤ gb106));have n3_:=Aside0.mk ((by rw [hg];exact (below_size (by exact HB.out)):w.heap.size ≤ gb106));clear HB;have HB:=n0_;have BK106:=n1_;have GW106:=n2_;have GE106:=n3_;clear n0_ n1_ n2_ n3_;clear hb hbox hg;have hcz4_0:w3.cell? ⟨gb106,0,none⟩ = some (.slice A0_0 l0_0.length c0_0):=(blk_cell BK106.out 0).trans rfl;have hcz4_1:w3.cell? ⟨gb106,1,none⟩ = some (.slice A0_1 l0_1.length c0_1):=(blk_cell BK106.out 1).trans rfl;have hfz4_0:=blk_frozen BK106.out 0;have hfz4_1:=blk_frozen BK106.out 1))
 (try simp only [Act.put,List.setIfInBounds_toArray,List.set_cons_zero,List.set_cons_succ])
 go_cut [19] (fun v19 wc=>∃ (kq:Nat) (x19_1:Bool),v19 = .bool x19_1∧Aside0 (spec_ChancesOk.j0 kq (l0_0.length:Int) x19_1 l0_0 l0_1 = some r)∧Aside0 (kq ≤ k)∧Aside0 (wc.heap[gb106]? = some (.cells #[(.slice A0_0 l0_0.length c0_0),(.slice A0_1 l0_1.length c0_1)] 28 (0,0)))∧Aside0 (Below w.heap.size w wc))
 case first =>
  have H:=HC2.out
  clear HC2
  replace H:=Option.bind_eq_some_iff.mp H
  obtain ⟨t107,A50,H⟩:=H
  replace H:(if t107 = true then (spec_ChancesOk.j0 k (l0_0.length:Int) ((l0_1.length:Int) != (l0_0.length:Int)) l0_0 l0_1) else (spec_ChancesOk.j0 k (l0_0.length:Int) true l0_0 l0_1)) = some r:=H
  have A5:=Aside0.mk A50
  clear A50
  by_cases c6:t107 = true
  ·subst c6
   have H1:(spec_ChancesOk.j0 k (l0_0.length:Int) ((l0_1.length:Int) != (l0_0.length:Int)) l0_0 l0_1) = some r:=by rw [if_pos rfl] at H;exact H
   clear H
   have H:=H1
   clear H1
   have H':=Aside0.mk H
   clear H
   go_wp2_with (first | ((with_reducible refine gate_callee (f:=40) rfl ?_);refine goesL_ (some 11) rfl rfl Try.func40 (by kernel_rfl) rfl #[.int .i64 (l0_0.length:Int),.int .i64 1,.int .i64 60] rfl (by (try simp only [List.map_toArray,List.map_cons,List.map_nil]);first | done | rfl | (simp only [List.length_drop,List.length_take];rfl)) ?_;(with_reducible refine (spec_l6In.calls (l0_0.length:Int) 1 60 true _ A5.out).mono ?_);rintro e w' ⟨rfl,⟨nd,rfl⟩⟩;refine ⟨_,rfl,?_⟩;have hcz7_0:w3.cell? ⟨gb106,0,none⟩ = some (.slice A0_0 l0_0.length c0_0):=(blk_cell BK106.out 0).trans rfl;have hcz7_1:w3.cell? ⟨gb106,1,none⟩ = some (.slice A0_1 l0_1.length c0_1):=(blk_cell BK106.out 1).trans rfl;have hfz7_0:=blk_frozen BK106.out 0;have hfz7_1:=blk_frozen BK106.out 1))
   go_meet
   case rel=>exact ⟨_,(((l0_1.length:Int) != (l0_0.length:Int))),(by first | rfl | (simp;done) | (simp [*];done)),H',⟨by first | omega | exact Nat.le_refl _⟩,⟨by (with_reducible repeat (first | refine blk_drewN ?_ _ | refine blk_drew ?_ | refine blk_alloc ?_ _));exact BK106.out⟩,⟨by repeat (with_reducible first | exact HB.out | apply below_alloc | apply pw_below_drewN | apply below_drew1 | refine below_set ?_ GE106.out)⟩⟩
  ·replace c6:=Bool.eq_false_iff.mpr c6
   subst c6
   have H1:(spec_ChancesOk.j0 k (l0_0.length:Int) true l0_0 l0_1) = some r:=by rw [if_neg (show ¬ (false = true) by decide)] at H;exact H
   clear H
   have H:=H1
   clear H1
   have H':=Aside0.mk H
   clear H
   go_wp2_with (first | ((with_reducible refine gate_callee (f:=40) rfl ?_);refine goesL_ (some 11) rfl rfl Try.func40 (by kernel_rfl) rfl #[.int .i64 (l0_0.length:Int),.int .i64 1,.int .i64 60] rfl (by (try simp only [List.map_toArray,List.map_cons,List.map_nil]);first | done | rfl | (simp only [List.length_drop,List.length_take];rfl)) ?_;(with_reducible refine (spec_l6In.calls (l0_0.length:Int) 1 60 false _ A5.out).mono ?_);rintro e w' ⟨rfl,⟨nd,rfl⟩⟩;refine ⟨_,rfl,?_⟩))
   go_meet
   case rel=>exact ⟨_,(true),(by first | rfl | (simp;done) | (simp [*];done)),H',⟨by first | omega | exact Nat.le_refl _⟩,⟨by (with_reducible repeat (first | refine blk_drewN ?_ _ | refine blk_drew ?_ | refine blk_alloc ?_ _));exact BK106.out⟩,⟨by repeat (with_reducible first | exact HB.out | apply below_alloc | apply pw_below_drewN | apply below_drew1 | refine below_set ?_ GE106.out)⟩⟩
 case rest =>
  clear HC2
  try clear c1
  try clear p2
  try clear c4
  try clear c6
  try clear hcz4_0
  try clear hcz4_1
  try clear hcz7_0
  try clear hcz7_1
  try clear hfz4_0
  try clear hfz4_1
  try clear hfz7_0
  try clear hfz7_1
  obtain ⟨kq,x19_1,rfl,HA,HJ1,BK106,HB⟩:=hcut
  cases kq with
  | zero=>exact absurd HA.out (by simp [spec_ChancesOk.j0])
  | succ kj1 =>
   have H:=HA.out
   clear HA
   simp only [spec_ChancesOk.j0] at H
   by_cases c8:x19_1 = true
   ·subst c8
    have H1:(some false) = some r:=by rw [if_pos rfl] at H;exact H
    clear H
    have H:=H1
    clear H1
    obtain rfl:=Option.some.inj H
    go_wp2
    go_ret
    exact ⟨rfl,by exact HB.out⟩
   ·replace c8:=Bool.eq_false_iff.mpr c8
    subst c8
    have H1:(spec_ChancesOk.l0 kj1 (l0_0.length:Int) 0 l0_0 l0_1) = some r:=by rw [if_neg (show ¬ (false = true) by decide)] at H;exact H
    clear H
    have H:=H1
    clear H1
    have H':=Aside0.mk H
    clear H
    go_wp2
    go_loopg [4] kj1 (fun kq v4 w'=>∃ (x4_2:Int),v4 = .int .i64 x4_2∧Aside0 (spec_ChancesOk.l0 kq (l0_0.length:Int) x4_2 l0_0 l0_1 = some r)∧Aside0 (kq ≤ kj1)∧Aside0 (w'.heap[gb106]? = some (.cells #[(.slice A0_0 l0_0.length c0_0),(.slice A0_1 l0_1.length c0_1)] 28 (0,0)))∧Aside0 (Below w.heap.size w w'))
    case atStart=>exact ⟨(0),(by first | rfl | (simp;done) | (simp [*];done)),H',⟨Nat.le_refl _⟩,⟨by exact BK106.out⟩,⟨by exact HB.out⟩⟩
    case round =>
     clear H'
     try clear c1
     try clear p2
     try clear c4
     try clear c6
     try clear c8
     try clear hcz4_0
     try clear hcz4_1
     try clear hcz7_0
     try clear hcz7_1
     try clear hfz4_0
     try clear hfz4_1
     try clear hfz7_0
     try clear hfz7_1
     try clear p2
     obtain ⟨x4_2,rfl,HA,HK2,BK106,HB⟩:=hrel
     cases gk with
     | zero=>exact absurd HA.out (by simp [spec_ChancesOk.l0])
     | succ k2 =>
      have H:=HA.out
      clear HA
      simp only [spec_ChancesOk.l0] at H
      by_cases c9:x4_2 < (l0_0.length:Int)
      ·rw [if_pos c9] at H
       have c9b0:decide (x4_2 < (l0_0.length:Int)) = true:=decide_eq_true c9
       clear c9
       have HC10:=Aside0.mk H
       clear H
       go_upto_region 7 with (fail)
       go_cut [41] (fun v41 wc=>∃ (kq:Nat) (x41_9:Bool),v41 = .bool x41_9∧Aside0 (spec_ChancesOk.j2 kq (l0_0.length:Int) x4_2 x41_9 l0_0 l0_1 = some r)∧Aside0 (kq ≤ k2)∧Aside0 (wc.heap[gb106]? = some (.cells #[(.slice A0_0 l0_0.length c0_0),(.slice A0_1 l0_1.length c0_1)] 28 (0,0)))∧Aside0 (Below w.heap.size w wc))
       case first =>
        have H:=HC10.out
        clear HC10
        by_cases c11:0 ≤ x4_2
        ·rw [if_pos c11] at H
         have c11b0:decide (0 ≤ x4_2) = true:=decide_eq_true c11
         clear c11
         (first | rw [c11b0] | (simp only [i64_w,i32_w];rw [c11b0]) | skip)
         by_cases c12:x4_2 < (l0_0.length:Int)
         ·rw [if_pos c12] at H
          have c12b0:decide (x4_2 < (l0_0.length:Int)) = true:=decide_eq_true c12
          clear c12
          replace H:=Option.bind_eq_some_iff.mp H
          obtain ⟨t109,A130,H⟩:=H
          replace H:(if t109 = true then (if x4_2 < (l0_1.length:Int) then (spec_ChancesOk.j2 k2 (l0_0.length:Int) x4_2 (((rd_L1 l0_1 x4_2).length:Int) != (l0_0.length:Int)) l0_0 l0_1) else (none)) else (spec_ChancesOk.j2 k2 (l0_0.length:Int) x4_2 true l0_0 l0_1)) = some r:=H
          have A13:=Aside0.mk A130
          clear A130
          by_cases c14:t109 = true
          ·subst c14
           have H1:(if x4_2 < (l0_1.length:Int) then (spec_ChancesOk.j2 k2 (l0_0.length:Int) x4_2 (((rd_L1 l0_1 x4_2).length:Int) != (l0_0.length:Int)) l0_0 l0_1) else (none)) = some r:=by rw [if_pos rfl] at H;exact H
           clear H
           have H:=H1
           clear H1
           by_cases c15:x4_2 < (l0_1.length:Int)
           ·rw [if_pos c15] at H
            have c15b0:decide (x4_2 < (l0_1.length:Int)) = true:=decide_eq_true c15
            clear c15
            have H':=Aside0.mk H
            clear H
            have hcz16_0:wr.cell? ⟨gb106,0,none⟩ = some (.slice A0_0 l0_0.length c0_0):=(blk_cell BK106.out 0).trans rfl
            have hcz16_1:wr.cell? ⟨gb106,1,none⟩ = some (.slice A0_1 l0_1.length c0_1):=(blk_cell BK106.out 1).trans rfl
            have hfz16_0:=blk_frozen BK106.out 0
            have hfz16_1:=blk_frozen BK106.out 1
            have p108:0 ≤ (x4_2:Int):=of_decide_eq_true (by assumption)
            have q108:x4_2 < (l0_0.length:Int):=of_decide_eq_true (by assumption)
            obtain ⟨ad108,e108,hx108_0⟩:=Kd.at_int HR0_0.out x4_2 p108 q108
            cases e108
            replace hx108_0:=(HB.out.cell (World.block_lt_of_cell? w _ hx108_0)).trans hx108_0
            replace p108:=eq_true p108
            replace q108:=eq_true q108
            go_wp2_with (first | ((with_reducible refine gate_callee (f:=40) rfl ?_);refine goesL_ (some 30) rfl rfl Try.func40 (by kernel_rfl) rfl #[.int .i64 (rd l0_0 x4_2),.int .i64 0,.int .i64 9] rfl (by (try simp only [List.map_toArray,List.map_cons,List.map_nil]);first | done | rfl | (simp only [List.length_drop,List.length_take];rfl)) ?_;(with_reducible refine (spec_l6In.calls (rd l0_0 x4_2) 0 9 true _ A13.out).mono ?_);rintro e w' ⟨rfl,⟨nd,rfl⟩⟩;refine ⟨_,rfl,?_⟩;have p110:0 ≤ (x4_2:Int):=of_decide_eq_true (by first | (with_reducible assumption) | assumption);have q110:x4_2 < (l0_1.length:Int):=of_decide_eq_true (by first | (with_reducible assumption) | assumption);obtain ⟨ad110,A110_0,c110_0,e110,hx110_0,hl110_0,hi110_0⟩:=at_L1 HR0_1.out x4_2 p110 q110;cases e110;replace hx110_0:=(HB.out.cell (World.block_lt_of_cell? w _ hx110_0)).trans hx110_0;have HR110_0:=Aside0.mk hi110_0;have HC110_0:=Aside0.mk hl110_0;clear hi110_0 hl110_0;replace p110:=eq_true p110;replace q110:=eq_true q110))
            go_meet
            case rel=>exact ⟨_,((((rd_L1 l0_1 x4_2).length:Int) != (l0_0.length:Int))),(by first | rfl | (simp;done) | (simp [*];done)),H',⟨by have:=HJ1.out;have:=HK2.out;first | omega | exact Nat.le_refl _⟩,⟨by (with_reducible repeat (first | refine blk_drewN ?_ _ | refine blk_drew ?_ | refine blk_alloc ?_ _));exact BK106.out⟩,⟨by repeat (with_reducible first | exact HB.out | apply below_alloc | apply pw_below_drewN | apply below_drew1 | refine below_set ?_ GE106.out)⟩⟩
           ·rw [if_neg c15] at H
            exact absurd H (by simp)
          ·replace c14:=Bool.eq_false_iff.mpr c14
           subst c14
           have H1:(spec_ChancesOk.j2 k2 (l0_0.length:Int) x4_2 true l0_0 l0_1) = some r:=by rw [if_neg (show ¬ (false = true) by decide)] at H;exact H
           clear H
           have H:=H1
           clear H1
           have H':=Aside0.mk H
           clear H
           have hcz17_0:wr.cell? ⟨gb106,0,none⟩ = some (.slice A0_0 l0_0.length c0_0):=(blk_cell BK106.out 0).trans rfl
           have hcz17_1:wr.cell? ⟨gb106,1,none⟩ = some (.slice A0_1 l0_1.length c0_1):=(blk_cell BK106.out 1).trans rfl
           have hfz17_0:=blk_frozen BK106.out 0
           have hfz17_1:=blk_frozen BK106.out 1
           have p108:0 ≤ (x4_2:Int):=of_decide_eq_true (by assumption)
           have q108:x4_2 < (l0_0.length:Int):=of_decide_eq_true (by assumption)
           obtain ⟨ad108,e108,hx108_0⟩:=Kd.at_int HR0_0.out x4_2 p108 q108
           cases e108
           replace hx108_0:=(HB.out.cell (World.block_lt_of_cell? w _ hx108_0)).trans hx108_0
           replace p108:=eq_true p108
           replace q108:=eq_true q108
           go_wp2_with (first | ((with_reducible refine gate_callee (f:=40) rfl ?_);refine goesL_ (some 30) rfl rfl Try.func40 (by kernel_rfl) rfl #[.int .i64 (rd l0_0 x4_2),.int .i64 0,.int .i64 9] rfl (by (try simp only [List.map_toArray,List.map_cons,List.map_nil]);first | done | rfl | (simp only [List.length_drop,List.length_take];rfl)) ?_;(with_reducible refine (spec_l6In.calls (rd l0_0 x4_2) 0 9 false _ A13.out).mono ?_);rintro e w' ⟨rfl,⟨nd,rfl⟩⟩;refine ⟨_,rfl,?_⟩))
           go_meet
           case rel=>exact ⟨_,(true),(by first | rfl | (simp;done) | (simp [*];done)),H',⟨by have:=HJ1.out;have:=HK2.out;first | omega | exact Nat.le_refl _⟩,⟨by (with_reducible repeat (first | refine blk_drewN ?_ _ | refine blk_drew ?_ | refine blk_alloc ?_ _));exact BK106.out⟩,⟨by repeat (with_reducible first | exact HB.out | apply below_alloc | apply pw_below_drewN | apply below_drew1 | refine below_set ?_ GE106.out)⟩⟩
         ·rw [if_neg c12] at H
          exact absurd H (by simp)
        ·rw [if_neg c11] at H
         exact absurd H (by simp)
       case rest =>
        clear HC10
        try clear c1
        try clear p1
        try clear q1
        try clear hx1
        try clear p2
        try clear c4
        try clear c6
        try clear c8
        try clear c9
        try clear c9b0
        try clear p10
        try clear q10
        try clear hx10
        try clear c11
        try clear c11b0
        try clear p11
        try clear q11
        try clear hx11
        try clear c12
        try clear c12b0
        try clear c14
        try clear c15
        try clear c15b0
        try clear hcz16_0
        try clear hcz16_1
        try clear hcz17_0
        try clear hcz17_1
        try clear hcz4_0
        try clear hcz4_1
        try clear hcz7_0
        try clear hcz7_1
        try clear hfz16_0
        try clear hfz16_1
        try clear hfz17_0
        try clear hfz17_1
        try clear hfz4_0
        try clear hfz4_1
        try clear hfz7_0
        try clear hfz7_1
        try clear hx108_0
        try clear hx110_0
        try clear p108
        try clear p110
        try clear p2
        try clear q108
        try clear q110
        obtain ⟨kq,x41_9,rfl,HA,HJ9,BK106,HB⟩:=hcut
        cases kq with
        | zero=>exact absurd HA.out (by simp [spec_ChancesOk.j2])
        | succ kj9 =>
         have H:=HA.out
         clear HA
         simp only [spec_ChancesOk.j2] at H
         by_cases c18:x41_9 = true
         ·subst c18
          have H1:(some false) = some r:=by rw [if_pos rfl] at H;exact H
          clear H
          have H:=H1
          clear H1
          obtain rfl:=Option.some.inj H
          go_wp2
          go_ret
          exact ⟨rfl,by exact HB.out⟩
         ·replace c18:=Bool.eq_false_iff.mpr c18
          subst c18
          have H1:(spec_ChancesOk.l1 kj9 (l0_0.length:Int) x4_2 0 0 l0_0 l0_1) = some r:=by rw [if_neg (show ¬ (false = true) by decide)] at H;exact H
          clear H
          have H:=H1
          clear H1
          have H':=Aside0.mk H
          clear H
          go_wp2
          go_loopg [5,6] kj9 (fun kq v5 v6 w'=>∃ (x5_4:Int) (x6_4:Int),v5 = .int .i64 x5_4∧v6 = .int .i64 x6_4∧Aside0 (spec_ChancesOk.l1 kq (l0_0.length:Int) x4_2 x5_4 x6_4 l0_0 l0_1 = some r)∧Aside0 (kq ≤ kj9)∧Aside0 (w'.heap[gb106]? = some (.cells #[(.slice A0_0 l0_0.length c0_0),(.slice A0_1 l0_1.length c0_1)] 28 (0,0)))∧Aside0 (Below w.heap.size w w'))
          case atStart=>exact ⟨(0),(0),(by first | rfl | (simp;done) | (simp [*];done)),(by first | rfl | (simp;done) | (simp [*];done)),H',⟨Nat.le_refl _⟩,⟨by exact BK106.out⟩,⟨by exact HB.out⟩⟩
          case round =>
           clear H'
           try clear c1
           try clear p1
           try clear q1
           try clear hx1
           try clear p2
           try clear c4
           try clear c6
           try clear c8
           try clear c9
           try clear c9b0
           try clear p10
           try clear q10
           try clear hx10
           try clear c11
           try clear c11b0
           try clear p11
           try clear q11
           try clear hx11
           try clear c12
           try clear c12b0
           try clear c14
           try clear c15
           try clear c15b0
           try clear c18
           try clear hcz16_0
           try clear hcz16_1
           try clear hcz17_0
           try clear hcz17_1
           try clear hcz4_0
           try clear hcz4_1
           try clear hcz7_0
           try clear hcz7_1
           try clear hfz16_0
           try clear hfz16_1
           try clear hfz17_0
           try clear hfz17_1
           try clear hfz4_0
           try clear hfz4_1
           try clear hfz7_0
           try clear hfz7_1
           try clear hx108_0
           try clear hx110_0
           try clear p1
           try clear p10
           try clear p108
           try clear p11
           try clear p110
           try clear p2
           try clear q1
           try clear q10
           try clear q108
           try clear q11
           try clear q110
           obtain ⟨x5_4,x6_4,rfl,rfl,HA,HK4,BK106,HB⟩:=hrel
           cases gk with
           | zero=>exact absurd HA.out (by simp [spec_ChancesOk.l1])
           | succ k4 =>
            have H:=HA.out
            clear HA
            simp only [spec_ChancesOk.l1] at H
            by_cases c19:x6_4 < (l0_0.length:Int)
            ·rw [if_pos c19] at H
             have c19b0:decide (x6_4 < (l0_0.length:Int)) = true:=decide_eq_true c19
             clear c19
             by_cases c20:0 ≤ x4_2
             ·rw [if_pos c20] at H
              have c20b0:decide (0 ≤ x4_2) = true:=decide_eq_true c20
              clear c20
              by_cases c21:x4_2 < (l0_1.length:Int)
              ·rw [if_pos c21] at H
               have c21b0:decide (x4_2 < (l0_1.length:Int)) = true:=decide_eq_true c21
               clear c21
               by_cases c22:0 ≤ x6_4
               ·rw [if_pos c22] at H
                have c22b0:decide (0 ≤ x6_4) = true:=decide_eq_true c22
                clear c22
                by_cases c23:x6_4 < ((rd_L1 l0_1 x4_2).length:Int)
                ·rw [if_pos c23] at H
                 have c23b0:decide (x6_4 < ((rd_L1 l0_1 x4_2).length:Int)) = true:=decide_eq_true c23
                 clear c23
                 replace H:=Option.bind_eq_some_iff.mp H
                 obtain ⟨t113,A240,H⟩:=H
                 replace H:(if t113 = true then (spec_ChancesOk.l1 k4 (l0_0.length:Int) x4_2 (wrap64 (x5_4 + (rd (rd_L1 l0_1 x4_2) x6_4))) (wrap64 (x6_4 + 1)) l0_0 l0_1) else (some false)) = some r:=H
                 have A24:=Aside0.mk A240
                 clear A240
                 by_cases c25:t113 = true
                 ·subst c25
                  have H1:(spec_ChancesOk.l1 k4 (l0_0.length:Int) x4_2 (wrap64 (x5_4 + (rd (rd_L1 l0_1 x4_2) x6_4))) (wrap64 (x6_4 + 1)) l0_0 l0_1) = some r:=by rw [if_pos rfl] at H;exact H
                  clear H
                  have H:=H1
                  clear H1
                  have H':=Aside0.mk H
                  clear H
                  have hcz26_0:wr.cell? ⟨gb106,0,none⟩ = some (.slice A0_0 l0_0.length c0_0):=(blk_cell BK106.out 0).trans rfl
                  have hcz26_1:wr.cell? ⟨gb106,1,none⟩ = some (.slice A0_1 l0_1.length c0_1):=(blk_cell BK106.out 1).trans rfl
                  have hfz26_0:=blk_frozen BK106.out 0
                  have hfz26_1:=blk_frozen BK106.out 1
                  have p111:0 ≤ (x4_2:Int):=of_decide_eq_true (by assumption)
                  have q111:x4_2 < (l0_1.length:Int):=of_decide_eq_true (by assumption)
                  obtain ⟨ad111,A111_0,c111_0,e111,hx111_0,hl111_0,hi111_0⟩:=at_L1 HR0_1.out x4_2 p111 q111
                  cases e111
                  replace hx111_0:=(HB.out.cell (World.block_lt_of_cell? w _ hx111_0)).trans hx111_0
                  have HR111_0:=Aside0.mk hi111_0
                  have HC111_0:=Aside0.mk hl111_0
                  clear hi111_0 hl111_0
                  replace p111:=eq_true p111
                  replace q111:=eq_true q111
                  have p112:0 ≤ (x6_4:Int):=of_decide_eq_true (by assumption)
                  have q112:x6_4 < ((rd_L1 l0_1 x4_2).length:Int):=of_decide_eq_true (by assumption)
                  obtain ⟨ad112,e112,hx112_0⟩:=Kd.at_int HR111_0.out x6_4 p112 q112
                  cases e112
                  replace hx112_0:=(HB.out.cell (World.block_lt_of_cell? w _ hx112_0)).trans hx112_0
                  replace p112:=eq_true p112
                  replace q112:=eq_true q112
                  go_wp2_with (first | ((with_reducible refine gate_callee (f:=40) rfl ?_);refine goesL_ (some 55) rfl rfl Try.func40 (by kernel_rfl) rfl #[.int .i64 (rd (rd_L1 l0_1 x4_2) x6_4),.int .i64 0,.int .i64 6] rfl (by (try simp only [List.map_toArray,List.map_cons,List.map_nil]);first | done | rfl | (simp only [List.length_drop,List.length_take];rfl)) ?_;(with_reducible refine (spec_l6In.calls (rd (rd_L1 l0_1 x4_2) x6_4) 0 6 true _ A24.out).mono ?_);rintro e w' ⟨rfl,⟨nd,rfl⟩⟩;refine ⟨_,rfl,?_⟩;have p114:0 ≤ (x4_2:Int):=of_decide_eq_true (by first | (with_reducible assumption) | assumption);have q114:x4_2 < (l0_1.length:Int):=of_decide_eq_true (by first | (with_reducible assumption) | assumption);obtain ⟨ad114,A114_0,c114_0,e114,hx114_0,hl114_0,hi114_0⟩:=at_L1 HR0_1.out x4_2 p114 q114;obtain rfl:ad111 = ad114:=(by injection e114);replace hx114_0:=(HB.out.cell (World.block_lt_of_cell? w _ hx114_0)).trans hx114_0;have HR114_0:=Aside0.mk hi114_0;have HC114_0:=Aside0.mk hl114_0;clear hi114_0 hl114_0;replace p114:=eq_true p114;replace q114:=eq_true q114;have ea_:=Option.some.inj (hx111_0.symm.trans hx114_0);injection ea_ with ea_ en_ ec_;subst ea_;subst ec_;clear en_;have p115:0 ≤ (x6_4:Int):=of_decide_eq_true (by first | (with_reducible assumption) | assumption);have q115:x6_4 < ((rd_L1 l0_1 x4_2).length:Int):=of_decide_eq_true (by first | (with_reducible assumption) | assumption);obtain ⟨ad115,e115,hx115_0⟩:=Kd.at_int HR114_0.out x6_4 p115 q115;cases e115;replace hx115_0:=(HB.out.cell (World.block_lt_of_cell? w _ hx115_0)).trans hx115_0;replace p115:=eq_true p115;replace q115:=eq_true q115))
                  go_roundg k4
                  case measure=>have:=HJ1.out;have:=HK2.out;have:=HJ9.out;have:=HK4.out;omega
                  case rel=>exact ⟨(wrap64 (x5_4 + (rd (rd_L1 l0_1 x4_2) x6_4))),(wrap64 (x6_4 + 1)),(by first | rfl | (simp;done) | (simp [*];done)),(by first | rfl | (simp;done) | (simp [*];done)),H',⟨by have:=HJ1.out;have:=HK2.out;have:=HJ9.out;have:=HK4.out;omega⟩,⟨by (with_reducible repeat (first | refine blk_drewN ?_ _ | refine blk_drew ?_ | refine blk_alloc ?_ _));exact BK106.out⟩,⟨by repeat (with_reducible first | exact HB.out | apply below_alloc | apply pw_below_drewN | apply below_drew1 | refine below_set ?_ GE106.out)⟩⟩
                 ·replace c25:=Bool.eq_false_iff.mpr c25
                  subst c25
                  have H1:(some false) = some r:=by rw [if_neg (show ¬ (false = true) by decide)] at H;exact H
                  clear H
                  have H:=H1
                  clear H1
                  obtain rfl:=Option.some.inj H
                  have hcz27_0:wr.cell? ⟨gb106,0,none⟩ = some (.slice A0_0 l0_0.length c0_0):=(blk_cell BK106.out 0).trans rfl
                  have hcz27_1:wr.cell? ⟨gb106,1,none⟩ = some (.slice A0_1 l0_1.length c0_1):=(blk_cell BK106.out 1).trans rfl
                  have hfz27_0:=blk_frozen BK106.out 0
                  have hfz27_1:=blk_frozen BK106.out 1
                  have p111:0 ≤ (x4_2:Int):=of_decide_eq_true (by assumption)
                  have q111:x4_2 < (l0_1.length:Int):=of_decide_eq_true (by assumption)
                  obtain ⟨ad111,A111_0,c111_0,e111,hx111_0,hl111_0,hi111_0⟩:=at_L1 HR0_1.out x4_2 p111 q111
                  cases e111
                  replace hx111_0:=(HB.out.cell (World.block_lt_of_cell? w _ hx111_0)).trans hx111_0
                  have HR111_0:=Aside0.mk hi111_0
                  have HC111_0:=Aside0.mk hl111_0
                  clear hi111_0 hl111_0
                  replace p111:=eq_true p111
                  replace q111:=eq_true q111
                  have p112:0 ≤ (x6_4:Int):=of_decide_eq_true (by assumption)
                  have q112:x6_4 < ((rd_L1 l0_1 x4_2).length:Int):=of_decide_eq_true (by assumption)
                  obtain ⟨ad112,e112,hx112_0⟩:=Kd.at_int HR111_0.out x6_4 p112 q112
                  cases e112
                  replace hx112_0:=(HB.out.cell (World.block_lt_of_cell? w _ hx112_0)).trans hx112_0
                  replace p112:=eq_true p112
                  replace q112:=eq_true q112
                  go_wp2_with (first | ((with_reducible refine gate_callee (f:=40) rfl ?_);refine goesL_ (some 55) rfl rfl Try.func40 (by kernel_rfl) rfl #[.int .i64 (rd (rd_L1 l0_1 x4_2) x6_4),.int .i64 0,.int .i64 6] rfl (by (try simp only [List.map_toArray,List.map_cons,List.map_nil]);first | done | rfl | (simp only [List.length_drop,List.length_take];rfl)) ?_;(with_reducible refine (spec_l6In.calls (rd (rd_L1 l0_1 x4_2) x6_4) 0 6 false _ A24.out).mono ?_);rintro e w' ⟨rfl,⟨nd,rfl⟩⟩;refine ⟨_,rfl,?_⟩))
                  go_ret
                  exact ⟨by first | rfl | (simp [errW_none,errW_some] <;> rfl) | (simp [*,errW_none,errW_some] <;> rfl),by repeat (with_reducible first | exact HB.out | apply below_alloc | apply pw_below_drewN | apply below_drew1 | refine below_set ?_ GE106.out)⟩
                ·rw [if_neg c23] at H
                 exact absurd H (by simp)
               ·rw [if_neg c22] at H
                exact absurd H (by simp)
              ·rw [if_neg c21] at H
               exact absurd H (by simp)
             ·rw [if_neg c20] at H
              exact absurd H (by simp)
            ·rw [if_neg c19] at H
             have c19b0:decide (x6_4 < (l0_0.length:Int)) = false:=decide_eq_false c19
             clear c19
             by_cases c28:x5_4 = 6
             ·rw [if_pos c28] at H
              have c28b0:(x5_4 == 6) = true:=beq_iff_eq.mpr c28
              have c28b1:(x5_4 != 6) = false:=bne_eq_false_iff_eq.mpr c28
              clear c28
              have H':=Aside0.mk H
              clear H
              go_wp2
              go_roundg k4
              case measure=>have:=HJ1.out;have:=HK2.out;have:=HJ9.out;have:=HK4.out;omega
              case rel=>exact ⟨(wrap64 (x4_2 + 1)),(by first | rfl | (simp;done) | (simp [*];done)),H',⟨by have:=HJ1.out;have:=HK2.out;have:=HJ9.out;have:=HK4.out;omega⟩,⟨by exact BK106.out⟩,⟨by exact HB.out⟩⟩
             ·rw [if_neg c28] at H
              have c28b0:(x5_4 == 6) = false:=beq_eq_false_iff_ne.mpr c28
              have c28b1:(x5_4 != 6) = true:=bne_iff_ne.mpr c28
              obtain rfl:=Option.some.inj H
              go_wp2
              go_ret
              exact ⟨rfl,by exact HB.out⟩
      ·rw [if_neg c9] at H
       have c9b0:decide (x4_2 < (l0_0.length:Int)) = false:=decide_eq_false c9
       clear c9
       obtain rfl:=Option.some.inj H
       go_wp2
       go_ret
       exact ⟨rfl,by exact HB.out⟩
mutual
def impl_ChancesOk.j0:Nat → Int → Bool → List Int → List (List Int) → Option (Bool)
 | 0,_,_,_,_=>none
 | k + 1,x3,x24,x139000,x139001=>if x24 = true then (some false) else (impl_ChancesOk.l0 k x3 x139001 (x139001.length:Int) 0 x139000 x139001)
def impl_ChancesOk.l0:Nat → Int → List (List Int) → Int → Int → List Int → List (List Int) → Option (Bool)
 | 0,_,_,_,_,_,_=>none
 | k + 1,x3,x26,x27,x28,x139000,x139001=>if x28 < x27 then (if 0 ≤ x28 then (if x28 < (x26.length:Int) then (if x28 < (x139000.length:Int) then (if (rd x139000 x28) < 0 then (impl_ChancesOk.j2 k x3 (rd_L1 x26 x28) x26 x27 x28 true x139000 x139001) else (if (rd x139000 x28) > 9 then (impl_ChancesOk.j2 k x3 (rd_L1 x26 x28) x26 x27 x28 true x139000 x139001) else (impl_ChancesOk.j2 k x3 (rd_L1 x26 x28) x26 x27 x28 (((rd_L1 x26 x28).length:Int) != x3) x139000 x139001))) else (none)) else (none)) else (none)) else (some true)
def impl_ChancesOk.j2:Nat → Int → List Int → List (List Int) → Int → Int → Bool → List Int → List (List Int) → Option (Bool)
 | 0,_,_,_,_,_,_,_,_=>none
 | k + 1,x3,x5,x26,x27,x28,x52,x139000,x139001=>if x52 = true then (some false) else (impl_ChancesOk.l1 k x3 0 x26 x27 x28 x5 (x5.length:Int) 0 x139000 x139001)
def impl_ChancesOk.l1:Nat → Int → Int → List (List Int) → Int → Int → List Int → Int → Int → List Int → List (List Int) → Option (Bool)
 | 0,_,_,_,_,_,_,_,_,_,_=>none
 | k + 1,x3,x6,x26,x27,x28,x53,x54,x55,x139000,x139001=>if x55 < x54 then (if 0 ≤ x55 then (if x55 < (x53.length:Int) then (if (rd x53 x55) < 0 then (some false) else (if (rd x53 x55) > 6 then (some false) else (impl_ChancesOk.l1 k x3 (wrap64 (x6 + (rd x53 x55))) x26 x27 x28 x53 x54 (wrap64 (x55 + 1)) x139000 x139001))) else (none)) else (none)) else (if x6 = 6 then (impl_ChancesOk.l0 k x3 x26 x27 (wrap64 (x28 + 1)) x139000 x139001) else (some false))
end
def impl_ChancesOk.f (k:Nat) (l0_0:List Int) (l0_1:List (List Int)):Option (Bool):=if (l0_0.length:Int) < 1 then (impl_ChancesOk.j0 k (l0_0.length:Int) true l0_0 l0_1) else (if (l0_0.length:Int) > 60 then (impl_ChancesOk.j0 k (l0_0.length:Int) true l0_0 l0_1) else (impl_ChancesOk.j0 k (l0_0.length:Int) ((l0_1.length:Int) != (l0_0.length:Int)) l0_0 l0_1))
theorem impl_ChancesOk.mono_l:∀ k,(∀ y0 y1 y2 y3,LeO (impl_ChancesOk.j0 k y0 y1 y2 y3) (impl_ChancesOk.j0 (k + 1) y0 y1 y2 y3))∧(∀ y0 y1 y2 y3 y4 y5,LeO (impl_ChancesOk.l0 k y0 y1 y2 y3 y4 y5) (impl_ChancesOk.l0 (k + 1) y0 y1 y2 y3 y4 y5))∧(∀ y0 y1 y2 y3 y4 y5 y6 y7,LeO (impl_ChancesOk.j2 k y0 y1 y2 y3 y4 y5 y6 y7) (impl_ChancesOk.j2 (k + 1) y0 y1 y2 y3 y4 y5 y6 y7))∧(∀ y0 y1 y2 y3 y4 y5 y6 y7 y8 y9,LeO (impl_ChancesOk.l1 k y0 y1 y2 y3 y4 y5 y6 y7 y8 y9) (impl_ChancesOk.l1 (k + 1) y0 y1 y2 y3 y4 y5 y6 y7 y8 y9))
 | 0=>⟨fun _ _ _ _ r h=>by simp [impl_ChancesOk.j0] at h,fun _ _ _ _ _ _ r h=>by simp [impl_ChancesOk.l0] at h,fun _ _ _ _ _ _ _ _ r h=>by simp [impl_ChancesOk.j2] at h,fun _ _ _ _ _ _ _ _ _ _ r h=>by simp [impl_ChancesOk.l1] at h⟩
 | k + 1=>by
  obtain ⟨ih0,ih1,ih2,ih3⟩:=impl_ChancesOk.mono_l k
  refine ⟨?_,?_,?_,?_⟩
  ·intro y0 y1 y2 y3
   unfold impl_ChancesOk.j0
   repeat' first
   | (with_reducible exact ih0 _ _ _ _)
   | (with_reducible exact ih1 _ _ _ _ _ _)
   | (with_reducible exact ih2 _ _ _ _ _ _ _ _)
   | (with_reducible exact ih3 _ _ _ _ _ _ _ _ _ _)
   | (with_reducible exact LeO.refl _)
   | (with_reducible exact LeO.none _)
   | (with_reducible refine LeO.ite ?_ ?_)
   | (with_reducible refine LeO.bind ?_ (fun _=>?_))
   | exact ih0 _ _ _ _
   | exact ih1 _ _ _ _ _ _
   | exact ih2 _ _ _ _ _ _ _ _
   | exact ih3 _ _ _ _ _ _ _ _ _ _
   | exact LeO.none _
   | refine LeO.ite ?_ ?_
   | refine LeO.bind ?_ (fun _=>?_)
  ·intro y0 y1 y2 y3 y4 y5
   unfold impl_ChancesOk.l0
   repeat' first
   | (with_reducible exact ih0 _ _ _ _)
   | (with_reducible exact ih1 _ _ _ _ _ _)
   | (with_reducible exact ih2 _ _ _ _ _ _ _ _)
   | (with_reducible exact ih3 _ _ _ _ _ _ _ _ _ _)
   | (with_reducible exact LeO.refl _)
   | (with_reducible exact LeO.none _)
   | (with_reducible refine LeO.ite ?_ ?_)
   | (with_reducible refine LeO.bind ?_ (fun _=>?_))
   | exact ih0 _ _ _ _
   | exact ih1 _ _ _ _ _ _
   | exact ih2 _ _ _ _ _ _ _ _
   | exact ih3 _ _ _ _ _ _ _ _ _ _
   | exact LeO.none _
   | refine LeO.ite ?_ ?_
   | refine LeO.bind ?_ (fun _=>?_)
  ·intro y0 y1 y2 y3 y4 y5 y6 y7
   unfold impl_ChancesOk.j2
   repeat' first
   | (with_reducible exact ih0 _ _ _ _)
   | (with_reducible exact ih1 _ _ _ _ _ _)
   | (with_reducible exact ih2 _ _ _ _ _ _ _ _)
   | (with_reducible exact ih3 _ _ _ _ _ _ _ _ _ _)
   | (with_reducible exact LeO.refl _)
   | (with_reducible exact LeO.none _)
   | (with_reducible refine LeO.ite ?_ ?_)
   | (with_reducible refine LeO.bind ?_ (fun _=>?_))
   | exact ih0 _ _ _ _
   | exact ih1 _ _ _ _ _ _
   | exact ih2 _ _ _ _ _ _ _ _
   | exact ih3 _ _ _ _ _ _ _ _ _ _
   | exact LeO.none _
   | refine LeO.ite ?_ ?_
   | refine LeO.bind ?_ (fun _=>?_)
  ·intro y0 y1 y2 y3 y4 y5 y6 y7 y8 y9
   unfold impl_ChancesOk.l1
   repeat' first
   | (with_reducible exact ih0 _ _ _ _)
   | (with_reducible exact ih1 _ _ _ _ _ _)
   | (with_reducible exact ih2 _ _ _ _ _ _ _ _)
   | (with_reducible exact ih3 _ _ _ _ _ _ _ _ _ _)
   | (with_reducible exact LeO.refl _)
   | (with_reducible exact LeO.none _)
   | (with_reducible refine LeO.ite ?_ ?_)
   | (with_reducible refine LeO.bind ?_ (fun _=>?_))
   | exact ih0 _ _ _ _
   | exact ih1 _ _ _ _ _ _
   | exact ih2 _ _ _ _ _ _ _ _
   | exact ih3 _ _ _ _ _ _ _ _ _ _
   | exact LeO.none _
   | refine LeO.ite ?_ ?_
   | refine LeO.bind ?_ (fun _=>?_)
theorem impl_ChancesOk.mono:∀ a0 a1 k,LeO (impl_ChancesOk.f k a0 a1) (impl_ChancesOk.f (k + 1) a0 a1):=by
 intro a0 a1 k
 obtain ⟨ih0,ih1,ih2,ih3⟩:=impl_ChancesOk.mono_l k
 unfold impl_ChancesOk.f
 repeat' first
   | (with_reducible exact ih0 _ _ _ _)
   | (with_reducible exact ih1 _ _ _ _ _ _)
   | (with_reducible exact ih2 _ _ _ _ _ _ _ _)
   | (with_reducible exact ih3 _ _ _ _ _ _ _ _ _ _)
   | (with_reducible exact LeO.refl _)
   | (with_reducible exact LeO.none _)
   | (with_reducible refine LeO.ite ?_ ?_)
   | (with_reducible refine LeO.bind ?_ (fun _=>?_))
   | exact ih0 _ _ _ _
   | exact ih1 _ _ _ _ _ _
   | exact ih2 _ _ _ _ _ _ _ _
   | exact ih3 _ _ _ _ _ _ _ _ _ _
   | exact LeO.none _
   | refine LeO.ite ?_ ?_
   | refine LeO.bind ?_ (fun _=>?_)
set_option maxHeartbeats 8000000 in
set_option maxRecDepth 100000 in
theorem impl_ChancesOk.calls (k:Nat) (A0_0:Option Addr) (c0_0:Nat) (l0_0:List Int) (A0_1:Option Addr) (c0_1:Nat) (l0_1:List (List Int)) (r:Bool) (w:World) (hr0_0:Kd.C (Kd.int .i64) w A0_0 l0_0.length l0_0) (hc0_0:l0_0.length ≤ c0_0) (hr0_1:Kd.C (Kd.slice 3 (Kd.int .i64)) w A0_1 l0_1.length l0_1) (hc0_1:l0_1.length ≤ c0_1) (h:impl_ChancesOk.f k l0_0 l0_1 = some r) :
  Calls Try.prog 16 #[.agg #[.slice A0_0 l0_0.length c0_0,.slice A0_1 l0_1.length c0_1]] w fun e w'=>e = .returned (.bool r)∧Below w.heap.size w w':=by
 have hu28:=Try.underlying28
 have HR0_0:=Aside0.mk hr0_0
 have HC0_0:=Aside0.mk hc0_0
 clear hr0_0 hc0_0
 have HR0_1:=Aside0.mk hr0_1
 have HC0_1:=Aside0.mk hc0_1
 clear hr0_1 hc0_1
 have HB:=Aside0.mk (Below.refl w.heap.size w)
 have H:(if (l0_0.length:Int) < 1 then (impl_ChancesOk.j0 k (l0_0.length:Int) true l0_0 l0_1) else (if (l0_0.length:Int) > 60 then (impl_ChancesOk.j0 k (l0_0.length:Int) true l0_0 l0_1) else (impl_ChancesOk.j0 k (l0_0.length:Int) ((l0_1.length:Int) != (l0_0.length:Int)) l0_0 l0_1))) = some r:=h
 clear h
 have HC2:=Aside0.mk H
 clear H
 go_enter Try.func16,Try.ntmps16
 go_upto_region 2 with (first | ((with_reducible refine gate_dst (N:=1) rfl ?_);(try (refine gate_guard (by rfl) ?_;dsimp only));refine box_event ?hg (N:=1) ?hd (cs:=#[.slice A0_0 l0_0.length c0_0,.slice A0_1 l0_1.length c0_1]) (t:=28) ?hr ?_;(case hd=>rfl);(case hg=>rfl);(case hr=>first | (go_simp;done) | (go_simp;rfl));intro gb138 hg w3 hbox hb;have n0_:=Aside0.mk (below_step (by exact HB.out) hb);have n1_:=Aside0.mk (hbox);have n2_:=Aside0.mk ((by rw [hg];exact (below_size (by exact HB.out)):w.heap.size ≤ gb138));have n3_:=Aside0.mk ((by rw [hg];exact (below_size (by exact HB.out)):w.heap.size ≤ gb138));clear HB;have HB:=n0_;have BK138:=n1_;have GW138:=n2_;have GE138:=n3_;clear n0_ n1_ n2_ n3_;clear hb hbox hg;have hcz4_0:w3.cell? ⟨gb138,0,none⟩ = some (.slice A0_0 l0_0.length c0_0):=(blk_cell BK138.out 0).trans rfl;have hcz4_1:w3.cell? ⟨gb138,1,none⟩ = some (.slice A0_1 l0_1.length c0_1):=(blk_cell BK138.out 1).trans rfl;have hfz4_0:=blk_frozen BK138.out 0;have hfz4_1:=blk_frozen BK138.out 1))
 (try simp only [Act.put,List.setIfInBounds_toArray,List.set_cons_zero,List.set_cons_succ])
 go_cut [24] (fun v24 wc=>∃ (kq:Nat) (x24_1:Bool),v24 = .bool x24_1∧Aside0 (impl_ChancesOk.j0 kq (l0_0.length:Int) x24_1 l0_0 l0_1 = some r)∧Aside0 (kq ≤ k)∧Aside0 (wc.heap[gb138]? = some (.cells #[(.slice A0_0 l0_0.length c0_0),(.slice A0_1 l0_1.length c0_1)] 28 (0,0)))∧Aside0 (Below w.heap.size w wc))
 case first =>
  have H:=HC2.out
  clear HC2
  by_cases c5:(l0_0.length:Int) < 1
  ·rw [if_pos c5] at H
   have c5b0:decide ((l0_0.length:Int) < 1) = true:=decide_eq_true c5
   have c5b1:decide (l0_0.length < 1) = true:=decide_eq_true (by omega)
   clear c5
   (first | rw [c5b0] | (simp only [i64_w,i32_w];rw [c5b0]) | skip)
   have H':=Aside0.mk H
   clear H
   go_wp2
   go_meet
   case rel=>exact ⟨_,(true),(by first | rfl | (simp;done) | (simp [*];done)),H',⟨by first | omega | exact Nat.le_refl _⟩,⟨by exact BK138.out⟩,⟨by exact HB.out⟩⟩
  ·rw [if_neg c5] at H
   have c5b0:decide ((l0_0.length:Int) < 1) = false:=decide_eq_false c5
   have c5b1:decide (l0_0.length < 1) = false:=decide_eq_false (by omega)
   clear c5
   (first | rw [c5b0] | (simp only [i64_w,i32_w];rw [c5b0]) | skip)
   by_cases c6:(l0_0.length:Int) > 60
   ·rw [if_pos c6] at H
    have c6b0:decide (60 < (l0_0.length:Int)) = true:=decide_eq_true c6
    have c6b1:decide (60 < l0_0.length) = true:=decide_eq_true (by omega)
    clear c6
    have H':=Aside0.mk H
    clear H
    go_wp2
    go_meet
    case rel=>exact ⟨_,(true),(by first | rfl | (simp;done) | (simp [*];done)),H',⟨by first | omega | exact Nat.le_refl _⟩,⟨by exact BK138.out⟩,⟨by exact HB.out⟩⟩
   ·rw [if_neg c6] at H
    have c6b0:decide (60 < (l0_0.length:Int)) = false:=decide_eq_false c6
    have c6b1:decide (60 < l0_0.length) = false:=decide_eq_false (by omega)
    clear c6
    have H':=Aside0.mk H
    clear H
    have hcz7_0:w3.cell? ⟨gb138,0,none⟩ = some (.slice A0_0 l0_0.length c0_0):=(blk_cell BK138.out 0).trans rfl
    have hcz7_1:w3.cell? ⟨gb138,1,none⟩ = some (.slice A0_1 l0_1.length c0_1):=(blk_cell BK138.out 1).trans rfl
    have hfz7_0:=blk_frozen BK138.out 0
    have hfz7_1:=blk_frozen BK138.out 1
    go_wp2
    go_meet
    case rel=>exact ⟨_,(((l0_1.length:Int) != (l0_0.length:Int))),(by first | rfl | (simp;done) | (simp [*];done)),H',⟨by first | omega | exact Nat.le_refl _⟩,⟨by exact BK138.out⟩,⟨by exact HB.out⟩⟩
 case rest =>
  clear HC2
  try clear c1
  try clear p2
  try clear c5
  try clear c5b0
  try clear c5b1
  try clear c6
  try clear c6b0
  try clear c6b1
  try clear hcz4_0
  try clear hcz4_1
  try clear hcz7_0
  try clear hcz7_1
  try clear hfz4_0
  try clear hfz4_1
  try clear hfz7_0
  try clear hfz7_1
  obtain ⟨kq,x24_1,rfl,HA,HJ1,BK138,HB⟩:=hcut
  cases kq with
  | zero=>exact absurd HA.out (by simp [impl_ChancesOk.j0])
  | succ kj1 =>
   have H:=HA.out
   clear HA
   simp only [impl_ChancesOk.j0] at H
   by_cases c8:x24_1 = true
   ·subst c8
    have H1:(some false) = some r:=by rw [if_pos rfl] at H;exact H
    clear H
    have H:=H1
    clear H1
    obtain rfl:=Option.some.inj H
    go_wp2
    go_ret
    exact ⟨rfl,by exact HB.out⟩
   ·replace c8:=Bool.eq_false_iff.mpr c8
    subst c8
    have H1:(impl_ChancesOk.l0 kj1 (l0_0.length:Int) l0_1 (l0_1.length:Int) 0 l0_0 l0_1) = some r:=by rw [if_neg (show ¬ (false = true) by decide)] at H;exact H
    clear H
    have H:=H1
    clear H1
    have H':=Aside0.mk H
    clear H
    have hcz9_0:wc.cell? ⟨gb138,0,none⟩ = some (.slice A0_0 l0_0.length c0_0):=(blk_cell BK138.out 0).trans rfl
    have hcz9_1:wc.cell? ⟨gb138,1,none⟩ = some (.slice A0_1 l0_1.length c0_1):=(blk_cell BK138.out 1).trans rfl
    have hfz9_0:=blk_frozen BK138.out 0
    have hfz9_1:=blk_frozen BK138.out 1
    go_wp2
    go_loopg [28] kj1 (fun kq v28 w'=>∃ (x28_2:Int),v28 = .int .i64 x28_2∧Aside0 (impl_ChancesOk.l0 kq (l0_0.length:Int) l0_1 (l0_1.length:Int) x28_2 l0_0 l0_1 = some r)∧Aside0 (kq ≤ kj1)∧Aside0 (w'.heap[gb138]? = some (.cells #[(.slice A0_0 l0_0.length c0_0),(.slice A0_1 l0_1.length c0_1)] 28 (0,0)))∧Aside0 (Below w.heap.size w w'))
    case atStart=>exact ⟨(0),(by first | rfl | (simp;done) | (simp [*];done)),H',⟨Nat.le_refl _⟩,⟨by exact BK138.out⟩,⟨by exact HB.out⟩⟩
    case round =>
     clear H'
     try clear c1
     try clear p2
     try clear c5
     try clear c5b0
     try clear c5b1
     try clear c6
     try clear c6b0
     try clear c6b1
     try clear c8
     try clear hcz4_0
     try clear hcz4_1
     try clear hcz7_0
     try clear hcz7_1
     try clear hcz9_0
     try clear hcz9_1
     try clear hfz4_0
     try clear hfz4_1
     try clear hfz7_0
     try clear hfz7_1
     try clear hfz9_0
     try clear hfz9_1
     try clear p2
     obtain ⟨x28_2,rfl,HA,HK2,BK138,HB⟩:=hrel
     cases gk with
     | zero=>exact absurd HA.out (by simp [impl_ChancesOk.l0])
     | succ k2 =>
      have H:=HA.out
      clear HA
      simp only [impl_ChancesOk.l0] at H
      by_cases c10:x28_2 < (l0_1.length:Int)
      ·rw [if_pos c10] at H
       have c10b0:decide (x28_2 < (l0_1.length:Int)) = true:=decide_eq_true c10
       clear c10
       by_cases c11:0 ≤ x28_2
       ·rw [if_pos c11] at H
        have c11b0:decide (0 ≤ x28_2) = true:=decide_eq_true c11
        clear c11
        by_cases c12:x28_2 < (l0_1.length:Int)
        ·rw [if_pos c12] at H
         have c12b0:decide (x28_2 < (l0_1.length:Int)) = true:=decide_eq_true c12
         clear c12
         have HC13:=Aside0.mk H
         clear H
         have p139:0 ≤ (x28_2:Int):=of_decide_eq_true (by assumption)
         have q139:x28_2 < (l0_1.length:Int):=of_decide_eq_true (by assumption)
         obtain ⟨ad139,A139_0,c139_0,e139,hx139_0,hl139_0,hi139_0⟩:=at_L1 HR0_1.out x28_2 p139 q139
         cases e139
         replace hx139_0:=(HB.out.cell (World.block_lt_of_cell? w _ hx139_0)).trans hx139_0
         have HR139_0:=Aside0.mk hi139_0
         have HC139_0:=Aside0.mk hl139_0
         clear hi139_0 hl139_0
         replace p139:=eq_true p139
         replace q139:=eq_true q139
         go_upto_region 7 with (fail)
         go_cut [52] (fun v52 wc=>∃ (kq:Nat) (x52_12:Bool),v52 = .bool x52_12∧Aside0 (impl_ChancesOk.j2 kq (l0_0.length:Int) (rd_L1 l0_1 x28_2) l0_1 (l0_1.length:Int) x28_2 x52_12 l0_0 l0_1 = some r)∧Aside0 (kq ≤ k2)∧Aside0 (wc.heap[gb138]? = some (.cells #[(.slice A0_0 l0_0.length c0_0),(.slice (some ad139) l0_1.length c0_1)] 28 (0,0)))∧Aside0 (Below w.heap.size w wc))
         case first =>
          have H:=HC13.out
          clear HC13
          by_cases c14:x28_2 < (l0_0.length:Int)
          ·rw [if_pos c14] at H
           have c14b0:decide (x28_2 < (l0_0.length:Int)) = true:=decide_eq_true c14
           clear c14
           (first | rw [c14b0] | (simp only [i64_w,i32_w];rw [c14b0]) | skip)
           by_cases c15:(rd l0_0 x28_2) < 0
           ·rw [if_pos c15] at H
            have c15b0:decide ((rd l0_0 x28_2) < 0) = true:=decide_eq_true c15
            clear c15
            have H':=Aside0.mk H
            clear H
            have hcz16_0:wr.cell? ⟨gb138,0,none⟩ = some (.slice A0_0 l0_0.length c0_0):=(blk_cell BK138.out 0).trans rfl
            have hcz16_1:wr.cell? ⟨gb138,1,none⟩ = some (.slice (some ad139) l0_1.length c0_1):=(blk_cell BK138.out 1).trans rfl
            have hfz16_0:=blk_frozen BK138.out 0
            have hfz16_1:=blk_frozen BK138.out 1
            have p140:0 ≤ (x28_2:Int):=of_decide_eq_true (by assumption)
            have q140:x28_2 < (l0_0.length:Int):=of_decide_eq_true (by assumption)
            obtain ⟨ad140,e140,hx140_0⟩:=Kd.at_int HR0_0.out x28_2 p140 q140
            cases e140
            replace hx140_0:=(HB.out.cell (World.block_lt_of_cell? w _ hx140_0)).trans hx140_0
            replace p140:=eq_true p140
            replace q140:=eq_true q140
            go_wp2
            go_meet
            case rel=>exact ⟨_,(true),(by first | rfl | (simp;done) | (simp [*];done)),H',⟨by have:=HJ1.out;have:=HK2.out;first | omega | exact Nat.le_refl _⟩,⟨by exact BK138.out⟩,⟨by exact HB.out⟩⟩
           ·rw [if_neg c15] at H
            have c15b0:decide ((rd l0_0 x28_2) < 0) = false:=decide_eq_false c15
            clear c15
            by_cases c17:(rd l0_0 x28_2) > 9
            ·rw [if_pos c17] at H
             have c17b0:decide (9 < (rd l0_0 x28_2)) = true:=decide_eq_true c17
             clear c17
             have H':=Aside0.mk H
             clear H
             have hcz18_0:wr.cell? ⟨gb138,0,none⟩ = some (.slice A0_0 l0_0.length c0_0):=(blk_cell BK138.out 0).trans rfl
             have hcz18_1:wr.cell? ⟨gb138,1,none⟩ = some (.slice (some ad139) l0_1.length c0_1):=(blk_cell BK138.out 1).trans rfl
             have hfz18_0:=blk_frozen BK138.out 0
             have hfz18_1:=blk_frozen BK138.out 1
             have p140:0 ≤ (x28_2:Int):=of_decide_eq_true (by assumption)
             have q140:x28_2 < (l0_0.length:Int):=of_decide_eq_true (by assumption)
             obtain ⟨ad140,e140,hx140_0⟩:=Kd.at_int HR0_0.out x28_2 p140 q140
             cases e140
             replace hx140_0:=(HB.out.cell (World.block_lt_of_cell? w _ hx140_0)).trans hx140_0
             replace p140:=eq_true p140
             replace q140:=eq_true q140
             have p141:0 ≤ (x28_2:Int):=of_decide_eq_true (by assumption)
             have q141:x28_2 < (l0_0.length:Int):=of_decide_eq_true (by assumption)
             obtain ⟨ad141,e141,hx141_0⟩:=Kd.at_int HR0_0.out x28_2 p141 q141
             obtain rfl:ad140 = ad141:=(by injection e141)
             replace hx141_0:=(HB.out.cell (World.block_lt_of_cell? w _ hx141_0)).trans hx141_0
             replace p141:=eq_true p141
             replace q141:=eq_true q141
             go_wp2
             go_meet
             case rel=>exact ⟨_,(true),(by first | rfl | (simp;done) | (simp [*];done)),H',⟨by have:=HJ1.out;have:=HK2.out;first | omega | exact Nat.le_refl _⟩,⟨by exact BK138.out⟩,⟨by exact HB.out⟩⟩
            ·rw [if_neg c17] at H
             have c17b0:decide (9 < (rd l0_0 x28_2)) = false:=decide_eq_false c17
             clear c17
             have H':=Aside0.mk H
             clear H
             have hcz19_0:wr.cell? ⟨gb138,0,none⟩ = some (.slice A0_0 l0_0.length c0_0):=(blk_cell BK138.out 0).trans rfl
             have hcz19_1:wr.cell? ⟨gb138,1,none⟩ = some (.slice (some ad139) l0_1.length c0_1):=(blk_cell BK138.out 1).trans rfl
             have hfz19_0:=blk_frozen BK138.out 0
             have hfz19_1:=blk_frozen BK138.out 1
             have p140:0 ≤ (x28_2:Int):=of_decide_eq_true (by assumption)
             have q140:x28_2 < (l0_0.length:Int):=of_decide_eq_true (by assumption)
             obtain ⟨ad140,e140,hx140_0⟩:=Kd.at_int HR0_0.out x28_2 p140 q140
             cases e140
             replace hx140_0:=(HB.out.cell (World.block_lt_of_cell? w _ hx140_0)).trans hx140_0
             replace p140:=eq_true p140
             replace q140:=eq_true q140
             have p141:0 ≤ (x28_2:Int):=of_decide_eq_true (by assumption)
             have q141:x28_2 < (l0_0.length:Int):=of_decide_eq_true (by assumption)
             obtain ⟨ad141,e141,hx141_0⟩:=Kd.at_int HR0_0.out x28_2 p141 q141
             obtain rfl:ad140 = ad141:=(by injection e141)
             replace hx141_0:=(HB.out.cell (World.block_lt_of_cell? w _ hx141_0)).trans hx141_0
             replace p141:=eq_true p141
             replace q141:=eq_true q141
             go_wp2
             go_meet
             case rel=>exact ⟨_,((((rd_L1 l0_1 x28_2).length:Int) != (l0_0.length:Int))),(by first | rfl | (simp;done) | (simp [*];done)),H',⟨by have:=HJ1.out;have:=HK2.out;first | omega | exact Nat.le_refl _⟩,⟨by exact BK138.out⟩,⟨by exact HB.out⟩⟩
          ·rw [if_neg c14] at H
           exact absurd H (by simp)
         case rest =>
          clear HC13
          try clear c1
          try clear p1
          try clear q1
          try clear hx1
          try clear p2
          try clear c5
          try clear c5b0
          try clear c5b1
          try clear c6
          try clear c6b0
          try clear c6b1
          try clear c8
          try clear c10
          try clear c10b0
          try clear c11
          try clear c11b0
          try clear c12
          try clear c12b0
          try clear c13
          try clear p13
          try clear q13
          try clear hx13
          try clear c14
          try clear c14b0
          try clear p14
          try clear q14
          try clear hx14
          try clear c15
          try clear c15b0
          try clear c16
          try clear c17
          try clear c17b0
          try clear hcz16_0
          try clear hcz16_1
          try clear hcz18_0
          try clear hcz18_1
          try clear hcz19_0
          try clear hcz19_1
          try clear hcz4_0
          try clear hcz4_1
          try clear hcz7_0
          try clear hcz7_1
          try clear hcz9_0
          try clear hcz9_1
          try clear hfz16_0
          try clear hfz16_1
          try clear hfz18_0
          try clear hfz18_1
          try clear hfz19_0
          try clear hfz19_1
          try clear hfz4_0
          try clear hfz4_1
          try clear hfz7_0
          try clear hfz7_1
          try clear hfz9_0
          try clear hfz9_1
          try clear hx139_0
          try clear hx140_0
          try clear hx141_0
          try clear p139
          try clear p140
          try clear p141
          try clear p2
          try clear q139
          try clear q140
          try clear q141
          obtain ⟨kq,x52_12,rfl,HA,HJ12,BK138,HB⟩:=hcut
          cases kq with
          | zero=>exact absurd HA.out (by simp [impl_ChancesOk.j2])
          | succ kj12 =>
           have H:=HA.out
           clear HA
           simp only [impl_ChancesOk.j2] at H
           by_cases c20:x52_12 = true
           ·subst c20
            have H1:(some false) = some r:=by rw [if_pos rfl] at H;exact H
            clear H
            have H:=H1
            clear H1
            obtain rfl:=Option.some.inj H
            go_wp2
            go_ret
            exact ⟨rfl,by exact HB.out⟩
           ·replace c20:=Bool.eq_false_iff.mpr c20
            subst c20
            have H1:(impl_ChancesOk.l1 kj12 (l0_0.length:Int) 0 l0_1 (l0_1.length:Int) x28_2 (rd_L1 l0_1 x28_2) ((rd_L1 l0_1 x28_2).length:Int) 0 l0_0 l0_1) = some r:=by rw [if_neg (show ¬ (false = true) by decide)] at H;exact H
            clear H
            have H:=H1
            clear H1
            have H':=Aside0.mk H
            clear H
            go_wp2
            go_loopg [6,55] kj12 (fun kq v6 v55 w'=>∃ (x6_4:Int) (x55_4:Int),v6 = .int .i64 x6_4∧v55 = .int .i64 x55_4∧Aside0 (impl_ChancesOk.l1 kq (l0_0.length:Int) x6_4 l0_1 (l0_1.length:Int) x28_2 (rd_L1 l0_1 x28_2) ((rd_L1 l0_1 x28_2).length:Int) x55_4 l0_0 l0_1 = some r)∧Aside0 (kq ≤ kj12)∧Aside0 (w'.heap[gb138]? = some (.cells #[(.slice A0_0 l0_0.length c0_0),(.slice (some ad139) l0_1.length c0_1)] 28 (0,0)))∧Aside0 (Below w.heap.size w w'))
            case atStart=>exact ⟨(0),(0),(by first | rfl | (simp;done) | (simp [*];done)),(by first | rfl | (simp;done) | (simp [*];done)),H',⟨Nat.le_refl _⟩,⟨by exact BK138.out⟩,⟨by exact HB.out⟩⟩
            case round =>
             clear H'
             try clear c1
             try clear p1
             try clear q1
             try clear hx1
             try clear c2
             try clear p2
             try clear c5
             try clear c5b0
             try clear c5b1
             try clear c6
             try clear c6b0
             try clear c6b1
             try clear c8
             try clear c10
             try clear c10b0
             try clear c11
             try clear c11b0
             try clear c12
             try clear c12b0
             try clear c13
             try clear p13
             try clear q13
             try clear hx13
             try clear c14
             try clear c14b0
             try clear p14
             try clear q14
             try clear hx14
             try clear c15
             try clear c15b0
             try clear c16
             try clear c17
             try clear c17b0
             try clear c20
             try clear hcz16_0
             try clear hcz16_1
             try clear hcz18_0
             try clear hcz18_1
             try clear hcz19_0
             try clear hcz19_1
             try clear hcz4_0
             try clear hcz4_1
             try clear hcz7_0
             try clear hcz7_1
             try clear hcz9_0
             try clear hcz9_1
             try clear hfz16_0
             try clear hfz16_1
             try clear hfz18_0
             try clear hfz18_1
             try clear hfz19_0
             try clear hfz19_1
             try clear hfz4_0
             try clear hfz4_1
             try clear hfz7_0
             try clear hfz7_1
             try clear hfz9_0
             try clear hfz9_1
             try clear hx139_0
             try clear hx140_0
             try clear hx141_0
             try clear p1
             try clear p13
             try clear p139
             try clear p14
             try clear p140
             try clear p141
             try clear p2
             try clear q1
             try clear q13
             try clear q139
             try clear q14
             try clear q140
             try clear q141
             obtain ⟨x6_4,x55_4,rfl,rfl,HA,HK4,BK138,HB⟩:=hrel
             cases gk with
             | zero=>exact absurd HA.out (by simp [impl_ChancesOk.l1])
             | succ k4 =>
              have H:=HA.out
              clear HA
              simp only [impl_ChancesOk.l1] at H
              by_cases c21:x55_4 < ((rd_L1 l0_1 x28_2).length:Int)
              ·rw [if_pos c21] at H
               have c21b0:decide (x55_4 < ((rd_L1 l0_1 x28_2).length:Int)) = true:=decide_eq_true c21
               clear c21
               by_cases c22:0 ≤ x55_4
               ·rw [if_pos c22] at H
                have c22b0:decide (0 ≤ x55_4) = true:=decide_eq_true c22
                clear c22
                by_cases c23:x55_4 < ((rd_L1 l0_1 x28_2).length:Int)
                ·rw [if_pos c23] at H
                 have c23b0:decide (x55_4 < ((rd_L1 l0_1 x28_2).length:Int)) = true:=decide_eq_true c23
                 clear c23
                 by_cases c24:(rd (rd_L1 l0_1 x28_2) x55_4) < 0
                 ·rw [if_pos c24] at H
                  have c24b0:decide ((rd (rd_L1 l0_1 x28_2) x55_4) < 0) = true:=decide_eq_true c24
                  clear c24
                  obtain rfl:=Option.some.inj H
                  have p142:0 ≤ (x55_4:Int):=of_decide_eq_true (by assumption)
                  have q142:x55_4 < ((rd_L1 l0_1 x28_2).length:Int):=of_decide_eq_true (by assumption)
                  obtain ⟨ad142,e142,hx142_0⟩:=Kd.at_int HR139_0.out x55_4 p142 q142
                  cases e142
                  replace hx142_0:=(HB.out.cell (World.block_lt_of_cell? w _ hx142_0)).trans hx142_0
                  replace p142:=eq_true p142
                  replace q142:=eq_true q142
                  go_wp2
                  go_ret
                  exact ⟨rfl,by exact HB.out⟩
                 ·rw [if_neg c24] at H
                  have c24b0:decide ((rd (rd_L1 l0_1 x28_2) x55_4) < 0) = false:=decide_eq_false c24
                  clear c24
                  by_cases c25:(rd (rd_L1 l0_1 x28_2) x55_4) > 6
                  ·rw [if_pos c25] at H
                   have c25b0:decide (6 < (rd (rd_L1 l0_1 x28_2) x55_4)) = true:=decide_eq_true c25
                   clear c25
                   obtain rfl:=Option.some.inj H
                   have p142:0 ≤ (x55_4:Int):=of_decide_eq_true (by assumption)
                   have q142:x55_4 < ((rd_L1 l0_1 x28_2).length:Int):=of_decide_eq_true (by assumption)
                   obtain ⟨ad142,e142,hx142_0⟩:=Kd.at_int HR139_0.out x55_4 p142 q142
                   cases e142
                   replace hx142_0:=(HB.out.cell (World.block_lt_of_cell? w _ hx142_0)).trans hx142_0
                   replace p142:=eq_true p142
                   replace q142:=eq_true q142
                   go_wp2
                   go_ret
                   exact ⟨rfl,by exact HB.out⟩
                  ·rw [if_neg c25] at H
                   have c25b0:decide (6 < (rd (rd_L1 l0_1 x28_2) x55_4)) = false:=decide_eq_false c25
                   clear c25
                   have H':=Aside0.mk H
                   clear H
                   have p142:0 ≤ (x55_4:Int):=of_decide_eq_true (by assumption)
                   have q142:x55_4 < ((rd_L1 l0_1 x28_2).length:Int):=of_decide_eq_true (by assumption)
                   obtain ⟨ad142,e142,hx142_0⟩:=Kd.at_int HR139_0.out x55_4 p142 q142
                   cases e142
                   replace hx142_0:=(HB.out.cell (World.block_lt_of_cell? w _ hx142_0)).trans hx142_0
                   replace p142:=eq_true p142
                   replace q142:=eq_true q142
                   go_wp2
                   go_roundg k4
                   case measure=>have:=HJ1.out;have:=HK2.out;have:=HJ12.out;have:=HK4.out;omega
                   case rel=>exact ⟨(wrap64 (x6_4 + (rd (rd_L1 l0_1 x28_2) x55_4))),(wrap64 (x55_4 + 1)),(by first | rfl | (simp;done) | (simp [*];done)),(by first | rfl | (simp;done) | (simp [*];done)),H',⟨by have:=HJ1.out;have:=HK2.out;have:=HJ12.out;have:=HK4.out;omega⟩,⟨by exact BK138.out⟩,⟨by exact HB.out⟩⟩
                ·rw [if_neg c23] at H
                 exact absurd H (by simp)
               ·rw [if_neg c22] at H
                exact absurd H (by simp)
              ·rw [if_neg c21] at H
               have c21b0:decide (x55_4 < ((rd_L1 l0_1 x28_2).length:Int)) = false:=decide_eq_false c21
               clear c21
               by_cases c26:x6_4 = 6
               ·rw [if_pos c26] at H
                have c26b0:(x6_4 == 6) = true:=beq_iff_eq.mpr c26
                have c26b1:(x6_4 != 6) = false:=bne_eq_false_iff_eq.mpr c26
                clear c26
                have H':=Aside0.mk H
                clear H
                go_wp2
                go_roundg k4
                case measure=>have:=HJ1.out;have:=HK2.out;have:=HJ12.out;have:=HK4.out;omega
                case rel=>exact ⟨(wrap64 (x28_2 + 1)),(by first | rfl | (simp;done) | (simp [*];done)),H',⟨by have:=HJ1.out;have:=HK2.out;have:=HJ12.out;have:=HK4.out;omega⟩,⟨by exact BK138.out⟩,⟨by exact HB.out⟩⟩
               ·rw [if_neg c26] at H
                have c26b0:(x6_4 == 6) = false:=beq_eq_false_iff_ne.mpr c26
                have c26b1:(x6_4 != 6) = true:=bne_iff_ne.mpr c26
                obtain rfl:=Option.some.inj H
                go_wp2
                go_ret
                exact ⟨rfl,by exact HB.out⟩
        ·rw [if_neg c12] at H
         exact absurd H (by simp)
       ·rw [if_neg c11] at H
        exact absurd H (by simp)
      ·rw [if_neg c10] at H
       have c10b0:decide (x28_2 < (l0_1.length:Int)) = false:=decide_eq_false c10
       clear c10
       obtain rfl:=Option.some.inj H
       go_wp2
       go_ret
       exact ⟨rfl,by exact HB.out⟩
def slices_Equal_int_int.l0:Nat → List Int → List Int → Int → Int → Option (Bool)
 | 0,_,_,_,_=>none
 | k + 1,x0,x1,x12,x13=>if x13 < x12 then (if 0 ≤ x13 then (if x13 < (x0.length:Int) then (if x13 < (x1.length:Int) then (if (rd x0 x13) = (rd x1 x13) then (slices_Equal_int_int.l0 k x0 x1 x12 (wrap64 (x13 + 1))) else (some false)) else (none)) else (none)) else (none)) else (some true)
def slices_Equal_int_int.f (k:Nat) (l0:List Int) (l1:List Int):Option (Bool):=if (l0.length:Int) = (l1.length:Int) then (slices_Equal_int_int.l0 k l0 l1 (l0.length:Int) 0) else (some false)
theorem slices_Equal_int_int.mono_l:∀ k,(∀ y0 y1 y2 y3,LeO (slices_Equal_int_int.l0 k y0 y1 y2 y3) (slices_Equal_int_int.l0 (k + 1) y0 y1 y2 y3))
 | 0=>fun _ _ _ _ r h=>by simp [slices_Equal_int_int.l0] at h
 | k + 1=>by
  have ih0:=slices_Equal_int_int.mono_l k
  ·intro y0 y1 y2 y3
   unfold slices_Equal_int_int.l0
   repeat' first
   | (with_reducible exact ih0 _ _ _ _)
   | (with_reducible exact LeO.refl _)
   | (with_reducible exact LeO.none _)
   | (with_reducible refine LeO.ite ?_ ?_)
   | (with_reducible refine LeO.bind ?_ (fun _=>?_))
   | exact ih0 _ _ _ _
   | exact LeO.none _
   | refine LeO.ite ?_ ?_
   | refine LeO.bind ?_ (fun _=>?_)
theorem slices_Equal_int_int.mono:∀ a0 a1 k,LeO (slices_Equal_int_int.f k a0 a1) (slices_Equal_int_int.f (k + 1) a0 a1):=by
 intro a0 a1 k
 have ih0:=slices_Equal_int_int.mono_l k
 unfold slices_Equal_int_int.f
 repeat' first
   | (with_reducible exact ih0 _ _ _ _)
   | (with_reducible exact LeO.refl _)
   | (with_reducible exact LeO.none _)
   | (with_reducible refine LeO.ite ?_ ?_)
   | (with_reducible refine LeO.bind ?_ (fun _=>?_))
   | exact ih0 _ _ _ _
   | exact LeO.none _
   | refine LeO.ite ?_ ?_
   | refine LeO.bind ?_ (fun _=>?_)
set_option maxHeartbeats 8000000 in
set_option maxRecDepth 100000 in
theorem slices_Equal_int_int.calls (k:Nat) (A0:Option Addr) (c0:Nat) (l0:List Int) (A1:Option Addr) (c1:Nat) (l1:List Int) (r:Bool) (w:World) (hr0:Kd.C (Kd.int .i64) w A0 l0.length l0) (hc0:l0.length ≤ c0) (hr1:Kd.C (Kd.int .i64) w A1 l1.length l1) (hc1:l1.length ≤ c1) (h:slices_Equal_int_int.f k l0 l1 = some r) :
  Calls Try.prog 63 #[.slice A0 l0.length c0,.slice A1 l1.length c1] w fun e w'=>e = .returned (.bool r)∧Drawn0 w w':=by
 have HR0:=Aside0.mk hr0
 have HC0:=Aside0.mk hc0
 clear hr0 hc0
 have HR1:=Aside0.mk hr1
 have HC1:=Aside0.mk hc1
 clear hr1 hc1
 have H:(if (l0.length:Int) = (l1.length:Int) then (slices_Equal_int_int.l0 k l0 l1 (l0.length:Int) 0) else (some false)) = some r:=h
 clear h
 by_cases c3:(l0.length:Int) = (l1.length:Int)
 ·rw [if_pos c3] at H
  have c3b0:((l0.length:Int) == (l1.length:Int)) = true:=beq_iff_eq.mpr c3
  have c3b1:((l0.length:Int) != (l1.length:Int)) = false:=bne_eq_false_iff_eq.mpr c3
  have c3b2:(l0.length == l1.length) = true:=by first | simpa using c3 | (simp at c3 ⊢;omega)
  clear c3
  have H':=Aside0.mk H
  clear H
  go_enter Try.func63,Try.ntmps63
  go_wp2
  repeat (go_quiet (fail);try go_wp2)
  go_loopg [13] k (fun kq v13 w'=>∃ (x13_1:Int),v13 = .int .i64 x13_1∧Aside0 (slices_Equal_int_int.l0 kq l0 l1 (l0.length:Int) x13_1 = some r)∧Aside0 (kq ≤ k)∧Drawn0 w w')
  case atStart=>exact ⟨(0),(by first | rfl | (simp;done) | (simp [*];done)),H',⟨Nat.le_refl _⟩,by repeat (first | exact Drawn0.refl _ | apply Drawn0.step)⟩
  case round =>
   clear H'
   try clear c1
   try clear p2
   try clear c3
   try clear c3b0
   try clear c3b1
   try clear c3b2
   obtain ⟨x13_1,rfl,HA,HK1,⟨m1,rfl⟩⟩:=hrel
   cases gk with
   | zero=>exact absurd HA.out (by simp [slices_Equal_int_int.l0])
   | succ k1 =>
    have H:=HA.out
    clear HA
    simp only [slices_Equal_int_int.l0] at H
    by_cases c4:x13_1 < (l0.length:Int)
    ·rw [if_pos c4] at H
     have c4b0:decide (x13_1 < (l0.length:Int)) = true:=decide_eq_true c4
     clear c4
     by_cases c5:0 ≤ x13_1
     ·rw [if_pos c5] at H
      have c5b0:decide (0 ≤ x13_1) = true:=decide_eq_true c5
      clear c5
      by_cases c6:x13_1 < (l0.length:Int)
      ·rw [if_pos c6] at H
       have c6b0:decide (x13_1 < (l0.length:Int)) = true:=decide_eq_true c6
       clear c6
       by_cases c7:x13_1 < (l1.length:Int)
       ·rw [if_pos c7] at H
        have c7b0:decide (x13_1 < (l1.length:Int)) = true:=decide_eq_true c7
        clear c7
        by_cases c8:(rd l0 x13_1) = (rd l1 x13_1)
        ·rw [if_pos c8] at H
         have c8b0:((rd l0 x13_1) == (rd l1 x13_1)) = true:=beq_iff_eq.mpr c8
         have c8b1:((rd l0 x13_1) != (rd l1 x13_1)) = false:=bne_eq_false_iff_eq.mpr c8
         clear c8
         have H':=Aside0.mk H
         clear H
         have p194:0 ≤ (x13_1:Int):=of_decide_eq_true (by assumption)
         have q194:x13_1 < (l0.length:Int):=of_decide_eq_true (by assumption)
         obtain ⟨ad194,e194,hx194_0⟩:=Kd.at_int HR0.out x13_1 p194 q194
         cases e194
         replace p194:=eq_true p194
         replace q194:=eq_true q194
         have p195:0 ≤ (x13_1:Int):=of_decide_eq_true (by assumption)
         have q195:x13_1 < (l1.length:Int):=of_decide_eq_true (by assumption)
         obtain ⟨ad195,e195,hx195_0⟩:=Kd.at_int HR1.out x13_1 p195 q195
         cases e195
         replace p195:=eq_true p195
         replace q195:=eq_true q195
         go_wp2
         repeat (go_quiet (fail);try go_wp2)
         go_roundg k1
         case measure=>have:=HK1.out;omega
         case rel=>exact ⟨(wrap64 (x13_1 + 1)),(by first | rfl | (simp;done) | (simp [*];done)),H',⟨by have:=HK1.out;omega⟩,by repeat (first | exact Drawn0.refl _ | apply Drawn0.step)⟩
        ·rw [if_neg c8] at H
         have c8b0:((rd l0 x13_1) == (rd l1 x13_1)) = false:=beq_eq_false_iff_ne.mpr c8
         have c8b1:((rd l0 x13_1) != (rd l1 x13_1)) = true:=bne_iff_ne.mpr c8
         obtain rfl:=Option.some.inj H
         have p194:0 ≤ (x13_1:Int):=of_decide_eq_true (by assumption)
         have q194:x13_1 < (l0.length:Int):=of_decide_eq_true (by assumption)
         obtain ⟨ad194,e194,hx194_0⟩:=Kd.at_int HR0.out x13_1 p194 q194
         cases e194
         replace p194:=eq_true p194
         replace q194:=eq_true q194
         have p195:0 ≤ (x13_1:Int):=of_decide_eq_true (by assumption)
         have q195:x13_1 < (l1.length:Int):=of_decide_eq_true (by assumption)
         obtain ⟨ad195,e195,hx195_0⟩:=Kd.at_int HR1.out x13_1 p195 q195
         cases e195
         replace p195:=eq_true p195
         replace q195:=eq_true q195
         go_wp2
         repeat (go_quiet (fail);try go_wp2)
         go_ret
         exact ⟨by first | rfl | (simp;done) | (simp [*];done),by repeat (first | exact Drawn0.refl _ | apply Drawn0.step)⟩
       ·rw [if_neg c7] at H
        exact absurd H (by simp)
      ·rw [if_neg c6] at H
       exact absurd H (by simp)
     ·rw [if_neg c5] at H
      exact absurd H (by simp)
    ·rw [if_neg c4] at H
     have c4b0:decide (x13_1 < (l0.length:Int)) = false:=decide_eq_false c4
     clear c4
     obtain rfl:=Option.some.inj H
     go_wp2
     repeat (go_quiet (fail);try go_wp2)
     go_ret
     exact ⟨by first | rfl | (simp;done) | (simp [*];done),by repeat (first | exact Drawn0.refl _ | apply Drawn0.step)⟩
 ·rw [if_neg c3] at H
  have c3b0:((l0.length:Int) == (l1.length:Int)) = false:=beq_eq_false_iff_ne.mpr c3
  have c3b1:((l0.length:Int) != (l1.length:Int)) = true:=bne_iff_ne.mpr c3
  have c3b2:(l0.length == l1.length) = false:=by first | simpa using c3 | (simp at c3 ⊢;omega)
  obtain rfl:=Option.some.inj H
  go_enter Try.func63,Try.ntmps63
  go_wp2
  repeat (go_quiet (fail);try go_wp2)
  go_ret
  exact ⟨by first | rfl | (simp;done) | (simp [*];done),by repeat (first | exact Drawn0.refl _ | apply Drawn0.step)⟩
def spec_l6Open.f (l0:List Int):Option (List Int × Int):=if (l0.length:Int) > 2000 then (if 2000 ≤ (l0.length:Int) then (some (l0.take 2000,0)) else (none)) else (some (l0,0))
set_option maxHeartbeats 8000000 in
set_option maxRecDepth 100000 in
theorem spec_l6Open.calls (A0:Option Addr) (c0:Nat) (l0:List Int) (r1:List Int) (r2:Int) (w0 w:World) (hB:Below w0.heap.size w0 w) (hr0:Kd.C (Kd.int .u8) w0 A0 l0.length l0) (hc0:l0.length ≤ c0) (h:spec_l6Open.f l0 = some (r1,r2)) :
  Calls Try.prog 44 #[.slice A0 l0.length c0] w fun e w'=>∃ g_:Nat,e = .returned (.pointer (some ⟨g_,0,none⟩))∧IsS67 w0 w' g_ r1 r2∧Below w0.heap.size w0 w'∧Below w.heap.size w w':=by
 have hu67:=Try.underlying67
 have HR0:=Aside0.mk hr0
 have HC0:=Aside0.mk hc0
 clear hr0 hc0
 have HBW:=Aside0.mk (Below.refl w.heap.size w)
 have HW0:=Aside0.mk hB.size
 have HB:=Aside0.mk hB
 clear hB
 have H:(if (l0.length:Int) > 2000 then (if 2000 ≤ (l0.length:Int) then (some (l0.take 2000,0)) else (none)) else (some (l0,0))) = some (r1,r2):=h
 clear h
 by_cases c2:(l0.length:Int) > 2000
 ·rw [if_pos c2] at H
  have c2b0:decide (2000 < (l0.length:Int)) = true:=decide_eq_true c2
  have c2b1:decide (2000 < l0.length) = true:=decide_eq_true (by omega)
  clear c2
  by_cases c3:2000 ≤ (l0.length:Int)
  ·rw [if_pos c3] at H
   have c3b0:=eq_true c3
   have c3b1:decide (2000 ≤ (l0.length:Int)) = true:=decide_eq_true c3
   clear c3
   simp only [Option.some.injEq,Prod.mk.injEq] at H
   obtain ⟨rfl,rfl⟩:=H
   obtain ⟨i04,hi04,_,hsz4,_⟩:=info_parts info5
   obtain ⟨hcut4,hA4,hC4⟩:=print_take_of (P:=Try.prog) (Value.int .u8) 0 32 5 .i64 Try.underlying32 hi04 hsz4 A0 c0 l0 2000 (by omega) (of_decide_eq_true (by assumption)) HC0.out
   have HR176:=Aside0.mk (Kd.C_of_reads (h1:=fun _=>rfl) (hA4 _ (Kd.reads_of_C HR0.out)))
   have HC176:=Aside0.mk hC4
   clear hA4 hC4 hi04 hsz4
   go_enter Try.func44,Try.ntmps44
   go_wp2_with (first | ((with_reducible refine gate_dst (N:=10) rfl ?_);refine box_event ?hg (N:=10) ?hd (cs:=#[.slice A0 (l0.take 2000).length c0,.int .i64 0]) (t:=67) ?hr ?_;(case hd=>rfl);(case hg=>rfl);(case hr=>first | (go_simp;done) | (go_simp;rfl));intro gb177 hg w5 hbox hb;have n0_:=Aside0.mk (below_step HBW.out hb);have n1_:=Aside0.mk (below_step (by exact HB.out) hb);have n2_:=Aside0.mk (hbox);have n3_:=Aside0.mk ((by rw [hg];exact (below_size (by exact HBW.out)):w.heap.size ≤ gb177));have n4_:=Aside0.mk ((Nat.le_trans HW0.out (by rw [hg];exact (below_size (by exact HBW.out)):w.heap.size ≤ gb177):w0.heap.size ≤ gb177));clear HBW;clear HB;have HBW:=n0_;have HB:=n1_;have BK177:=n2_;have GW177:=n3_;have GE177:=n4_;clear n0_ n1_ n2_ n3_ n4_;clear hb hbox hg))
   go_ret
   exact ⟨_,rfl,(show IsS67 w0 _ gb177 (l0.take 2000) 0 from ⟨_,_,by exact BK177.out,GE177.out,HR176.out⟩),by exact HB.out,by exact HBW.out⟩
  ·rw [if_neg c3] at H
   exact absurd H (by simp)
 ·rw [if_neg c2] at H
  have c2b0:decide (2000 < (l0.length:Int)) = false:=decide_eq_false c2
  have c2b1:decide (2000 < l0.length) = false:=decide_eq_false (by omega)
  clear c2
  simp only [Option.some.injEq,Prod.mk.injEq] at H
  obtain ⟨rfl,rfl⟩:=H
  go_enter Try.func44,Try.ntmps44
  go_wp2_with (first | ((with_reducible refine gate_dst (N:=10) rfl ?_);refine box_event ?hg (N:=10) ?hd (cs:=#[.slice A0 l0.length c0,.int .i64 0]) (t:=67) ?hr ?_;(case hd=>rfl);(case hg=>rfl);(case hr=>first | (go_simp;done) | (go_simp;rfl));intro gb178 hg w6 hbox hb;have n0_:=Aside0.mk (below_step HBW.out hb);have n1_:=Aside0.mk (below_step (by exact HB.out) hb);have n2_:=Aside0.mk (hbox);have n3_:=Aside0.mk ((by rw [hg];exact (below_size (by exact HBW.out)):w.heap.size ≤ gb178));have n4_:=Aside0.mk ((Nat.le_trans HW0.out (by rw [hg];exact (below_size (by exact HBW.out)):w.heap.size ≤ gb178):w0.heap.size ≤ gb178));clear HBW;clear HB;have HBW:=n0_;have HB:=n1_;have BK178:=n2_;have GW178:=n3_;have GE178:=n4_;clear n0_ n1_ n2_ n3_ n4_;clear hb hbox hg))
  go_ret
  exact ⟨_,rfl,(show IsS67 w0 _ gb178 l0 0 from ⟨_,_,by exact BK178.out,GE178.out,HR0.out⟩),by exact HB.out,by exact HBW.out⟩
def spec_l6Rd_pick.j0:Nat → Int → Bool → List Int → Int → Option (Int × Int)
 | 0,_,_,_,_=>none
 | k + 1,x1,x24,x1000,x1001=>if x24 = true then (some (0,x1001)) else (if (wrap64 (x1001 - 1)) < (x1000.length:Int) then (if 0 ≤ (wrap64 (x1001 - 1)) then (if x1 = 0 then (none) else (some (Int.tmod (wrap64 (rd x1000 (wrap64 (x1001 - 1)))) x1,x1001))) else (none)) else (if (x1000.length:Int) = 0 then (none) else (if 0 ≤ (Int.tmod (wrap64 (x1001 - 1)) (x1000.length:Int)) then (if (Int.tmod (wrap64 (x1001 - 1)) (x1000.length:Int)) < (x1000.length:Int) then (if 0 ≤ (Int.tmod (wrap64 ((wrap64 ((wrap64 (x1001 - 1)) * 7)) + 3)) (x1000.length:Int)) then (if (Int.tmod (wrap64 ((wrap64 ((wrap64 (x1001 - 1)) * 7)) + 3)) (x1000.length:Int)) < (x1000.length:Int) then (if x1 = 0 then (none) else (some (Int.tmod (Go.bits .xor .i64 (wrap64 ((wrap64 ((wrap64 ((wrap64 ((wrap64 (rd x1000 (Int.tmod (wrap64 (x1001 - 1)) (x1000.length:Int)))) * 131)) + (wrap64 ((wrap64 (rd x1000 (Int.tmod (wrap64 ((wrap64 ((wrap64 (x1001 - 1)) * 7)) + 3)) (x1000.length:Int)))) * 1117)))) + (wrap64 ((wrap64 (x1001 - 1)) * 29)))) + (wrap64 ((wrap64 (Int.tdiv (wrap64 (x1001 - 1)) (x1000.length:Int))) * 53)))) (wrap64 (Int.tdiv (wrap64 ((wrap64 ((wrap64 ((wrap64 ((wrap64 (rd x1000 (Int.tmod (wrap64 (x1001 - 1)) (x1000.length:Int)))) * 131)) + (wrap64 ((wrap64 (rd x1000 (Int.tmod (wrap64 ((wrap64 ((wrap64 (x1001 - 1)) * 7)) + 3)) (x1000.length:Int)))) * 1117)))) + (wrap64 ((wrap64 (x1001 - 1)) * 29)))) + (wrap64 ((wrap64 (Int.tdiv (wrap64 (x1001 - 1)) (x1000.length:Int))) * 53)))) 64))) x1,x1001))) else (none)) else (none)) else (none)) else (none))))
def spec_l6Rd_pick.f (k:Nat) (s0_0:List Int) (s0_1:Int) (a1:Int):Option (Int × Int):=if a1 < 1 then (spec_l6Rd_pick.j0 k a1 true s0_0 (wrap64 (s0_1 + 1))) else (spec_l6Rd_pick.j0 k a1 ((s0_0.length:Int) == 0) s0_0 (wrap64 (s0_1 + 1)))
theorem spec_l6Rd_pick.mono_l:∀ k,(∀ y0 y1 y2 y3,LeO (spec_l6Rd_pick.j0 k y0 y1 y2 y3) (spec_l6Rd_pick.j0 (k + 1) y0 y1 y2 y3))
 | 0=>fun _ _ _ _ r h=>by simp [spec_l6Rd_pick.j0] at h
 | k + 1=>by
  have ih0:=spec_l6Rd_pick.mono_l k
  ·intro y0 y1 y2 y3
   unfold spec_l6Rd_pick.j0
   repeat' first
   | (with_reducible exact ih0 _ _ _ _)
   | (with_reducible exact LeO.refl _)
   | (with_reducible exact LeO.none _)
   | (with_reducible refine LeO.ite ?_ ?_)
   | (with_reducible refine LeO.bind ?_ (fun _=>?_))
   | exact ih0 _ _ _ _
   | exact LeO.none _
   | refine LeO.ite ?_ ?_
   | refine LeO.bind ?_ (fun _=>?_)
theorem spec_l6Rd_pick.mono:∀ a0 a1 a2 k,LeO (spec_l6Rd_pick.f k a0 a1 a2) (spec_l6Rd_pick.f (k + 1) a0 a1 a2):=by
 intro a0 a1 a2 k
 have ih0:=spec_l6Rd_pick.mono_l k
 unfold spec_l6Rd_pick.f
 repeat' first
   | (with_reducible exact ih0 _ _ _ _)
   | (with_reducible exact LeO.refl _)
   | (with_reducible exact LeO.none _)
   | (with_reducible refine LeO.ite ?_ ?_)
   | (with_reducible refine LeO.bind ?_ (fun _=>?_))
   | exact ih0 _ _ _ _
   | exact LeO.none _
   | refine LeO.ite ?_ ?_
   | refine LeO.bind ?_ (fun _=>?_)
set_option maxHeartbeats 8000000 in
set_option maxRecDepth 100000 in
theorem spec_l6Rd_pick.calls (k:Nat) (g:Nat) (s0_0:List Int) (s0_1:Int) (a1:Int) (r1:Int) (r2:Int) (w0 w:World) (hI:IsS67 w0 w g s0_0 s0_1) (hB:Below w0.heap.size w0 w) (h:spec_l6Rd_pick.f k s0_0 s0_1 a1 = some (r1,r2)) :
  Calls Try.prog 48 #[.pointer (some ⟨g,0,none⟩),.int .i64 a1] w fun e w'=>e = .returned (.int .i64 r1)∧IsS67 w0 w' g s0_0 r2∧Below w0.heap.size w0 w'∧KeepBut w w' g none:=by
 have HI0:=Aside0.mk hI
 have HK:=Aside0.mk (KeepBut.refl w g none)
 have HL:=Aside0.mk hB.size
 clear hI
 have HW0:=Aside0.mk hB.size
 have HB:=Aside0.mk hB
 clear hB
 have H:(if a1 < 1 then (spec_l6Rd_pick.j0 k a1 true s0_0 (wrap64 (s0_1 + 1))) else (spec_l6Rd_pick.j0 k a1 ((s0_0.length:Int) == 0) s0_0 (wrap64 (s0_1 + 1)))) = some (r1,r2):=h
 clear h
 have HC3:=Aside0.mk H
 clear H
 obtain ⟨ASz4_0,cSz4_0,HGz4,hgz4,HSz4_0⟩:=HI0.out
 have hcz4_0:=cellS67_0 HGz4
 have hcz4_1:=cellS67_1 HGz4
 have hfz4_1:=blk_frozen HGz4 1
 clear HGz4 hgz4
 go_enter Try.func48,Try.ntmps48
 go_upto_region 2 with (fail)
 repeat (go_quiet (fail);go_upto_region 2 with (fail))
 go_cut [24] (fun v24 wc=>∃ (kq:Nat) (x24_2:Bool),v24 = .bool x24_2∧Aside0 (spec_l6Rd_pick.j0 kq a1 x24_2 s0_0 (wrap64 (s0_1 + 1)) = some (r1,r2))∧Aside0 (kq ≤ k)∧Aside0 (IsS67 w0 wc g s0_0 (wrap64 (s0_1 + 1)))∧Aside0 (KeepBut w wc g none)∧Aside0 (Below w0.heap.size w0 wc))
 case first =>
  have H:=HC3.out
  clear HC3
  by_cases c5:a1 < 1
  ·rw [if_pos c5] at H
   have c5b0:decide (a1 < 1) = true:=decide_eq_true c5
   clear c5
   (first | rw [c5b0] | (simp only [i64_w,i32_w];rw [c5b0]) | skip)
   have H':=Aside0.mk H
   clear H
   go_wp2
   repeat (go_quiet (fail);try go_wp2)
   go_meet
   case rel=>exact ⟨_,(true),(by first | rfl | (simp;done) | (simp [*];done)),H',⟨by first | omega | exact Nat.le_refl _⟩,⟨by repeat (with_reducible first | exact HI0.out | apply IsS67.alloc | apply IsS67.drewN | apply IsS67.drew | apply IsS67.set_1)⟩,⟨by repeat (with_reducible first | exact HK.out | apply KeepBut.set_ | apply keep_drewN | apply keep_drew | apply keep_alloc)⟩,⟨by repeat (with_reducible first | exact HB.out | apply below_alloc | apply pw_below_drewN | apply below_drew1 | refine below_set ?_ (IsS67.ge HI0.out))⟩⟩
  ·rw [if_neg c5] at H
   have c5b0:decide (a1 < 1) = false:=decide_eq_false c5
   clear c5
   (first | rw [c5b0] | (simp only [i64_w,i32_w];rw [c5b0]) | skip)
   have H':=Aside0.mk H
   clear H
   obtain ⟨ASz6_0,cSz6_0,HGz6,hgz6,HSz6_0⟩:=HI0.out
   have hcz6_0:=cellS67_0 HGz6
   have hcz6_1:=cellS67_1 HGz6
   have hfz6_1:=blk_frozen HGz6 1
   clear HGz6 hgz6
   go_wp2
   repeat (go_quiet (fail);try go_wp2)
   go_meet
   case rel=>exact ⟨_,(((s0_0.length:Int) == 0)),(by first | rfl | (simp;done) | (simp [*];done)),H',⟨by first | omega | exact Nat.le_refl _⟩,⟨by repeat (with_reducible first | exact HI0.out | apply IsS67.alloc | apply IsS67.drewN | apply IsS67.drew | apply IsS67.set_1)⟩,⟨by repeat (with_reducible first | exact HK.out | apply KeepBut.set_ | apply keep_drewN | apply keep_drew | apply keep_alloc)⟩,⟨by repeat (with_reducible first | exact HB.out | apply below_alloc | apply pw_below_drewN | apply below_drew1 | refine below_set ?_ (IsS67.ge HI0.out))⟩⟩
 case rest =>
  clear HC3
  try clear p2
  try clear c4
  try clear c5
  try clear c5b0
  try clear p6
  try clear hcz4_0
  try clear hcz4_1
  try clear hcz6_0
  try clear hcz6_1
  try clear hfz4_1
  try clear hfz6_1
  obtain ⟨kq,x24_2,rfl,HA,HJ2,HI0,HK,HB⟩:=hcut
  cases kq with
  | zero=>exact absurd HA.out (by simp [spec_l6Rd_pick.j0])
  | succ kj2 =>
   have H:=HA.out
   clear HA
   simp only [spec_l6Rd_pick.j0] at H
   by_cases c7:x24_2 = true
   ·subst c7
    have H1:(some (0,(wrap64 (s0_1 + 1)))) = some (r1,r2):=by rw [if_pos rfl] at H;exact H
    clear H
    have H:=H1
    clear H1
    simp only [Option.some.injEq,Prod.mk.injEq] at H
    obtain ⟨rfl,rfl⟩:=H
    go_wp2
    repeat (go_quiet (fail);try go_wp2)
    go_ret
    exact ⟨rfl,by exact HI0.out,by exact HB.out,by exact HK.out⟩
   ·replace c7:=Bool.eq_false_iff.mpr c7
    subst c7
    have H1:(if (wrap64 ((wrap64 (s0_1 + 1)) - 1)) < (s0_0.length:Int) then (if 0 ≤ (wrap64 ((wrap64 (s0_1 + 1)) - 1)) then (if a1 = 0 then (none) else (some (Int.tmod (wrap64 (rd s0_0 (wrap64 ((wrap64 (s0_1 + 1)) - 1)))) a1,(wrap64 (s0_1 + 1))))) else (none)) else (if (s0_0.length:Int) = 0 then (none) else (if 0 ≤ (Int.tmod (wrap64 ((wrap64 (s0_1 + 1)) - 1)) (s0_0.length:Int)) then (if (Int.tmod (wrap64 ((wrap64 (s0_1 + 1)) - 1)) (s0_0.length:Int)) < (s0_0.length:Int) then (if 0 ≤ (Int.tmod (wrap64 ((wrap64 ((wrap64 ((wrap64 (s0_1 + 1)) - 1)) * 7)) + 3)) (s0_0.length:Int)) then (if (Int.tmod (wrap64 ((wrap64 ((wrap64 ((wrap64 (s0_1 + 1)) - 1)) * 7)) + 3)) (s0_0.length:Int)) < (s0_0.length:Int) then (if a1 = 0 then (none) else (some (Int.tmod (Go.bits .xor .i64 (wrap64 ((wrap64 ((wrap64 ((wrap64 ((wrap64 (rd s0_0 (Int.tmod (wrap64 ((wrap64 (s0_1 + 1)) - 1)) (s0_0.length:Int)))) * 131)) + (wrap64 ((wrap64 (rd s0_0 (Int.tmod (wrap64 ((wrap64 ((wrap64 ((wrap64 (s0_1 + 1)) - 1)) * 7)) + 3)) (s0_0.length:Int)))) * 1117)))) + (wrap64 ((wrap64 ((wrap64 (s0_1 + 1)) - 1)) * 29)))) + (wrap64 ((wrap64 (Int.tdiv (wrap64 ((wrap64 (s0_1 + 1)) - 1)) (s0_0.length:Int))) * 53)))) (wrap64 (Int.tdiv (wrap64 ((wrap64 ((wrap64 ((wrap64 ((wrap64 (rd s0_0 (Int.tmod (wrap64 ((wrap64 (s0_1 + 1)) - 1)) (s0_0.length:Int)))) * 131)) + (wrap64 ((wrap64 (rd s0_0 (Int.tmod (wrap64 ((wrap64 ((wrap64 ((wrap64 (s0_1 + 1)) - 1)) * 7)) + 3)) (s0_0.length:Int)))) * 1117)))) + (wrap64 ((wrap64 ((wrap64 (s0_1 + 1)) - 1)) * 29)))) + (wrap64 ((wrap64 (Int.tdiv (wrap64 ((wrap64 (s0_1 + 1)) - 1)) (s0_0.length:Int))) * 53)))) 64))) a1,(wrap64 (s0_1 + 1))))) else (none)) else (none)) else (none)) else (none)))) = some (r1,r2):=by rw [if_neg (show ¬ (false = true) by decide)] at H;exact H
    clear H
    have H:=H1
    clear H1
    by_cases c8:(wrap64 ((wrap64 (s0_1 + 1)) - 1)) < (s0_0.length:Int)
    ·rw [if_pos c8] at H
     have c8b0:decide ((wrap64 ((wrap64 (s0_1 + 1)) - 1)) < (s0_0.length:Int)) = true:=decide_eq_true c8
     clear c8
     obtain ⟨ji9,hji9⟩:∃ j_:Int,(wrap64 ((wrap64 (s0_1 + 1)) - 1)) = j_:=⟨_,rfl⟩
     replace H:(if 0 ≤ (ji9) then (if a1 = 0 then (none) else (some (Int.tmod (wrap64 (rd s0_0 (ji9))) a1,(wrap64 (s0_1 + 1))))) else (none)) = some (r1,r2):=by first | (rw [hji9] at H;exact H) | (simp only [hji9] at H ⊢;exact H)
     (try rw [hji9] at c8b0)
     have hji9w:(IntKind.i64.wrap ((wrap64 (s0_1 + 1)) - 1)) = ji9:=(i64_w _).trans hji9
     by_cases c10:0 ≤ (ji9)
     ·rw [if_pos c10] at H
      have c10b0:decide (0 ≤ (ji9)) = true:=decide_eq_true c10
      clear c10
      by_cases c11:a1 = 0
      ·rw [if_pos c11] at H
       exact absurd H (by simp)
      ·rw [if_neg c11] at H
       have c11b0:(a1 == 0) = false:=beq_eq_false_iff_ne.mpr c11
       have c11b1:(a1 != 0) = true:=bne_iff_ne.mpr c11
       simp only [Option.some.injEq,Prod.mk.injEq] at H
       obtain ⟨rfl,rfl⟩:=H
       obtain ⟨ASz12_0,cSz12_0,HGz12,hgz12,HSz12_0⟩:=HI0.out
       have hcz12_0:=cellS67_0 HGz12
       have hcz12_1:=cellS67_1 HGz12
       have hfz12_1:=blk_frozen HGz12 1
       clear HGz12 hgz12
       have p179:0 ≤ ((ji9):Int):=of_decide_eq_true (by assumption)
       have q179:(ji9) < (s0_0.length:Int):=of_decide_eq_true (by assumption)
       obtain ⟨ad179,e179,hx179_0⟩:=Kd.at_int HSz12_0 (ji9) p179 q179
       cases e179
       replace hx179_0:=pw_cell_below HB.out hx179_0
       replace p179:=eq_true p179
       replace q179:=eq_true q179
       go_wp2
       repeat (go_quiet (fail);try go_wp2)
       go_ret
       exact ⟨by first | rfl | (simp [errW_none,errW_some] <;> rfl) | (simp only [← hji9];first | rfl | (simp [errW_none,errW_some] <;> rfl)) | (simp [*,errW_none,errW_some] <;> rfl),by exact HI0.out,by exact HB.out,by exact HK.out⟩
     ·rw [if_neg c10] at H
      exact absurd H (by simp)
    ·rw [if_neg c8] at H
     have c8b0:decide ((wrap64 ((wrap64 (s0_1 + 1)) - 1)) < (s0_0.length:Int)) = false:=decide_eq_false c8
     clear c8
     by_cases c13:(s0_0.length:Int) = 0
     ·rw [if_pos c13] at H
      exact absurd H (by simp)
     ·rw [if_neg c13] at H
      have c13b0:((s0_0.length:Int) == 0) = false:=beq_eq_false_iff_ne.mpr c13
      have c13b1:((s0_0.length:Int) != 0) = true:=bne_iff_ne.mpr c13
      have c13b2:¬ (s0_0 = []):=fun h_=>c13 (by rw [h_];rfl)
      obtain ⟨ji14,hji14⟩:∃ j_:Int,(Int.tmod (wrap64 ((wrap64 (s0_1 + 1)) - 1)) (s0_0.length:Int)) = j_:=⟨_,rfl⟩
      replace H:(if 0 ≤ (ji14) then (if (ji14) < (s0_0.length:Int) then (if 0 ≤ (Int.tmod (wrap64 ((wrap64 ((wrap64 ((wrap64 (s0_1 + 1)) - 1)) * 7)) + 3)) (s0_0.length:Int)) then (if (Int.tmod (wrap64 ((wrap64 ((wrap64 ((wrap64 (s0_1 + 1)) - 1)) * 7)) + 3)) (s0_0.length:Int)) < (s0_0.length:Int) then (if a1 = 0 then (none) else (some (Int.tmod (Go.bits .xor .i64 (wrap64 ((wrap64 ((wrap64 ((wrap64 ((wrap64 (rd s0_0 (ji14))) * 131)) + (wrap64 ((wrap64 (rd s0_0 (Int.tmod (wrap64 ((wrap64 ((wrap64 ((wrap64 (s0_1 + 1)) - 1)) * 7)) + 3)) (s0_0.length:Int)))) * 1117)))) + (wrap64 ((wrap64 ((wrap64 (s0_1 + 1)) - 1)) * 29)))) + (wrap64 ((wrap64 (Int.tdiv (wrap64 ((wrap64 (s0_1 + 1)) - 1)) (s0_0.length:Int))) * 53)))) (wrap64 (Int.tdiv (wrap64 ((wrap64 ((wrap64 ((wrap64 ((wrap64 (rd s0_0 (ji14))) * 131)) + (wrap64 ((wrap64 (rd s0_0 (Int.tmod (wrap64 ((wrap64 ((wrap64 ((wrap64 (s0_1 + 1)) - 1)) * 7)) + 3)) (s0_0.length:Int)))) * 1117)))) + (wrap64 ((wrap64 ((wrap64 (s0_1 + 1)) - 1)) * 29)))) + (wrap64 ((wrap64 (Int.tdiv (wrap64 ((wrap64 (s0_1 + 1)) - 1)) (s0_0.length:Int))) * 53)))) 64))) a1,(wrap64 (s0_1 + 1))))) else (none)) else (none)) else (none)) else (none)) = some (r1,r2):=by first | (rw [hji14] at H;exact H) | (simp only [hji14] at H ⊢;exact H)
      by_cases c15:0 ≤ (ji14)
      ·rw [if_pos c15] at H
       have c15b0:decide (0 ≤ (ji14)) = true:=decide_eq_true c15
       clear c15
       by_cases c16:(ji14) < (s0_0.length:Int)
       ·rw [if_pos c16] at H
        have c16b0:decide ((ji14) < (s0_0.length:Int)) = true:=decide_eq_true c16
        clear c16
        obtain ⟨ji17,hji17⟩:∃ j_:Int,(Int.tmod (wrap64 ((wrap64 ((wrap64 ((wrap64 (s0_1 + 1)) - 1)) * 7)) + 3)) (s0_0.length:Int)) = j_:=⟨_,rfl⟩
        replace H:(if 0 ≤ (ji17) then (if (ji17) < (s0_0.length:Int) then (if a1 = 0 then (none) else (some (Int.tmod (Go.bits .xor .i64 (wrap64 ((wrap64 ((wrap64 ((wrap64 ((wrap64 (rd s0_0 (ji14))) * 131)) + (wrap64 ((wrap64 (rd s0_0 (ji17))) * 1117)))) + (wrap64 ((wrap64 ((wrap64 (s0_1 + 1)) - 1)) * 29)))) + (wrap64 ((wrap64 (Int.tdiv (wrap64 ((wrap64 (s0_1 + 1)) - 1)) (s0_0.length:Int))) * 53)))) (wrap64 (Int.tdiv (wrap64 ((wrap64 ((wrap64 ((wrap64 ((wrap64 (rd s0_0 (ji14))) * 131)) + (wrap64 ((wrap64 (rd s0_0 (ji17))) * 1117)))) + (wrap64 ((wrap64 ((wrap64 (s0_1 + 1)) - 1)) * 29)))) + (wrap64 ((wrap64 (Int.tdiv (wrap64 ((wrap64 (s0_1 + 1)) - 1)) (s0_0.length:Int))) * 53)))) 64))) a1,(wrap64 (s0_1 + 1))))) else (none)) else (none)) = some (r1,r2):=by first | (rw [hji17] at H;exact H) | (simp only [hji17] at H ⊢;exact H)
        by_cases c18:0 ≤ (ji17)
        ·rw [if_pos c18] at H
         have c18b0:decide (0 ≤ (ji17)) = true:=decide_eq_true c18
         clear c18
         by_cases c19:(ji17) < (s0_0.length:Int)
         ·rw [if_pos c19] at H
          have c19b0:decide ((ji17) < (s0_0.length:Int)) = true:=decide_eq_true c19
          clear c19
          by_cases c20:a1 = 0
          ·rw [if_pos c20] at H
           exact absurd H (by simp)
          ·rw [if_neg c20] at H
           have c20b0:(a1 == 0) = false:=beq_eq_false_iff_ne.mpr c20
           have c20b1:(a1 != 0) = true:=bne_iff_ne.mpr c20
           simp only [Option.some.injEq,Prod.mk.injEq] at H
           obtain ⟨rfl,rfl⟩:=H
           obtain ⟨ASz21_0,cSz21_0,HGz21,hgz21,HSz21_0⟩:=HI0.out
           have hcz21_0:=cellS67_0 HGz21
           have hcz21_1:=cellS67_1 HGz21
           have hfz21_1:=blk_frozen HGz21 1
           clear HGz21 hgz21
           have p180:0 ≤ ((ji14):Int):=of_decide_eq_true (by assumption)
           have q180:(ji14) < (s0_0.length:Int):=of_decide_eq_true (by assumption)
           obtain ⟨ad180,e180,hx180_0⟩:=Kd.at_int HSz21_0 (ji14) p180 q180
           cases e180
           replace hx180_0:=pw_cell_below HB.out hx180_0
           replace p180:=eq_true p180
           replace q180:=eq_true q180
           have p181:0 ≤ ((ji17):Int):=of_decide_eq_true (by assumption)
           have q181:(ji17) < (s0_0.length:Int):=of_decide_eq_true (by assumption)
           obtain ⟨ad181,e181,hx181_0⟩:=Kd.at_int HSz21_0 (ji17) p181 q181
           obtain rfl:ad180 = ad181:=(by injection e181)
           replace hx181_0:=pw_cell_below HB.out hx181_0
           replace p181:=eq_true p181
           replace q181:=eq_true q181
           go_wp2
           repeat (go_quiet (fail);try go_wp2)
           go_ret
           exact ⟨by first | rfl | (simp [errW_none,errW_some] <;> rfl) | (simp only [← hji14,← hji17];first | rfl | (simp [errW_none,errW_some] <;> rfl)) | (simp [*,errW_none,errW_some] <;> rfl),by repeat (with_reducible first | exact HI0.out | apply IsS67.alloc | apply IsS67.drewN | apply IsS67.drew | apply IsS67.set_1),by repeat (with_reducible first | exact HB.out | apply below_alloc | apply pw_below_drewN | apply below_drew1 | refine below_set ?_ (IsS67.ge HI0.out)),by repeat (with_reducible first | exact HK.out | apply KeepBut.set_ | apply keep_drewN | apply keep_drew | apply keep_alloc)⟩
         ·rw [if_neg c19] at H
          exact absurd H (by simp)
        ·rw [if_neg c18] at H
         exact absurd H (by simp)
       ·rw [if_neg c16] at H
        exact absurd H (by simp)
      ·rw [if_neg c15] at H
       exact absurd H (by simp)
def impl_sums.l0:Nat → List Int → List Int → List Int → Int → Int → Option (List Int)
 | 0,_,_,_,_,_=>none
 | k + 1,x1,x7,x17,x18,x19=>if x19 < x18 then (if 0 ≤ x19 then (if x19 < (x17.length:Int) then (if x19 < (x1.length:Int) then (if 0 ≤ (rd x1 x19) then (if (rd x1 x19) < (x7.length:Int) then (impl_sums.l0 k x1 (x7.set ((rd x1 x19):Int).toNat (wrap64 ((rd x7 (rd x1 x19)) + (rd x17 x19)))) x17 x18 (wrap64 (x19 + 1))) else (none)) else (none)) else (none)) else (none)) else (none)) else (some x7)
def impl_sums.f (k:Nat) (l0_0:List Int) (l0_1:List (List Int)) (l1:List Int) (a2:Int):Option (List Int):=if 0 ≤ (l1.length:Int) then (if ((l1.length:Int):Int).toNat ≤ 35184372088832 then (if 0 ≤ a2 then (if a2 < (l0_1.length:Int) then (impl_sums.l0 k l1 (List.replicate ((l1.length:Int):Int).toNat 0) (rd_L1 l0_1 a2) ((rd_L1 l0_1 a2).length:Int) 0) else (none)) else (none)) else (none)) else (none)
theorem impl_sums.mono_l:∀ k,(∀ y0 y1 y2 y3 y4,LeO (impl_sums.l0 k y0 y1 y2 y3 y4) (impl_sums.l0 (k + 1) y0 y1 y2 y3 y4))
 | 0=>fun _ _ _ _ _ r h=>by simp [impl_sums.l0] at h
 | k + 1=>by
  have ih0:=impl_sums.mono_l k
  ·intro y0 y1 y2 y3 y4
   unfold impl_sums.l0
   repeat' first
   | (with_reducible exact ih0 _ _ _ _ _)
   | (with_reducible exact LeO.refl _)
   | (with_reducible exact LeO.none _)
   | (with_reducible refine LeO.ite ?_ ?_)
   | (with_reducible refine LeO.bind ?_ (fun _=>?_))
   | exact ih0 _ _ _ _ _
   | exact LeO.none _
   | refine LeO.ite ?_ ?_
   | refine LeO.bind ?_ (fun _=>?_)
theorem impl_sums.mono:∀ a0 a1 a2 a3 k,LeO (impl_sums.f k a0 a1 a2 a3) (impl_sums.f (k + 1) a0 a1 a2 a3):=by
 intro a0 a1 a2 a3 k
 have ih0:=impl_sums.mono_l k
 unfold impl_sums.f
 repeat' first
   | (with_reducible exact ih0 _ _ _ _ _)
   | (with_reducible exact LeO.refl _)
   | (with_reducible exact LeO.none _)
   | (with_reducible refine LeO.ite ?_ ?_)
   | (with_reducible refine LeO.bind ?_ (fun _=>?_))
   | exact ih0 _ _ _ _ _
   | exact LeO.none _
   | refine LeO.ite ?_ ?_
   | refine LeO.bind ?_ (fun _=>?_)
set_option maxHeartbeats 8000000 in
set_option maxRecDepth 100000 in
theorem impl_sums.calls (k:Nat) (A0_0:Option Addr) (c0_0:Nat) (l0_0:List Int) (A0_1:Option Addr) (c0_1:Nat) (l0_1:List (List Int)) (A1:Option Addr) (c1:Nat) (l1:List Int) (a2:Int) (r:List Int) (w:World) (hr0_0:Kd.C (Kd.int .i64) w A0_0 l0_0.length l0_0) (hc0_0:l0_0.length ≤ c0_0) (hr0_1:Kd.C (Kd.slice 3 (Kd.int .i64)) w A0_1 l0_1.length l0_1) (hc0_1:l0_1.length ≤ c0_1) (hr1:Kd.C (Kd.int .i64) w A1 l1.length l1) (hc1:l1.length ≤ c1) (h:impl_sums.f k l0_0 l0_1 l1 a2 = some r) :
  Calls Try.prog 47 #[.agg #[.slice A0_0 l0_0.length c0_0,.slice A0_1 l0_1.length c0_1],.slice A1 l1.length c1,.int .i64 a2] w fun e w'=>∃ v0_:Value,e = .returned (v0_)∧Kd.R (Kd.int .i64) 3 w' w.heap.size (fun _=>True) v0_ r∧Below w.heap.size w w':=by
 have hu28:=Try.underlying28
 have HR0_0:=Aside0.mk hr0_0
 have HC0_0:=Aside0.mk hc0_0
 clear hr0_0 hc0_0
 have HR0_1:=Aside0.mk hr0_1
 have HC0_1:=Aside0.mk hc0_1
 clear hr0_1 hc0_1
 have HR1:=Aside0.mk hr1
 have HC1:=Aside0.mk hc1
 clear hr1 hc1
 have HB:=Aside0.mk (Below.refl w.heap.size w)
 have H:(if 0 ≤ (l1.length:Int) then (if ((l1.length:Int):Int).toNat ≤ 35184372088832 then (if 0 ≤ a2 then (if a2 < (l0_1.length:Int) then (impl_sums.l0 k l1 (List.replicate ((l1.length:Int):Int).toNat 0) (rd_L1 l0_1 a2) ((rd_L1 l0_1 a2).length:Int) 0) else (none)) else (none)) else (none)) else (none)) = some r:=h
 clear h
 by_cases c4:0 ≤ (l1.length:Int)
 ·rw [if_pos c4] at H
  have c4b0:=eq_true c4
  have c4b1:decide (0 ≤ (l1.length:Int)) = true:=decide_eq_true c4
  clear c4
  by_cases c5:((l1.length:Int):Int).toNat ≤ 35184372088832
  ·rw [if_pos c5] at H
   have c5b0:=eq_true c5
   have c5b1:decide (((l1.length:Int):Int).toNat ≤ 35184372088832) = true:=decide_eq_true c5
   clear c5
   obtain ⟨y197,hy197⟩:∃ y_:List Int,y_ = (List.replicate ((l1.length:Int):Int).toNat 0):=⟨_,rfl⟩
   replace H:(if 0 ≤ a2 then (if a2 < (l0_1.length:Int) then (impl_sums.l0 k l1 y197 (rd_L1 l0_1 a2) ((rd_L1 l0_1 a2).length:Int) 0) else (none)) else (none)) = some r:=by rw [hy197];exact H
   have Ny197:=Aside0.mk hy197
   clear hy197
   by_cases c6:0 ≤ a2
   ·rw [if_pos c6] at H
    have c6b0:decide (0 ≤ a2) = true:=decide_eq_true c6
    clear c6
    by_cases c7:a2 < (l0_1.length:Int)
    ·rw [if_pos c7] at H
     have c7b0:decide (a2 < (l0_1.length:Int)) = true:=decide_eq_true c7
     clear c7
     have H':=Aside0.mk H
     clear H
     go_enter Try.func47,Try.ntmps47
     go_wp2_with (first | ((with_reducible refine gate_dst (N:=3) rfl ?_);refine box_event ?hg (N:=3) ?hd (cs:=#[.slice A0_0 l0_0.length c0_0,.slice A0_1 l0_1.length c0_1]) (t:=28) ?hr ?_;(case hd=>rfl);(case hg=>rfl);(case hr=>first | (go_simp;done) | (go_simp;rfl));intro gb196 hg w8 hbox hb;have n0_:=Aside0.mk (below_step (by exact HB.out) hb);have n1_:=Aside0.mk (hbox);have n2_:=Aside0.mk ((by rw [hg];exact (below_size (by exact HB.out)):w.heap.size ≤ gb196));have n3_:=Aside0.mk ((by rw [hg];exact (below_size (by exact HB.out)):w.heap.size ≤ gb196));clear HB;have HB:=n0_;have BK196:=n1_;have GW196:=n2_;have GE196:=n3_;clear n0_ n1_ n2_ n3_;clear hb hbox hg) | ((with_reducible refine gate_dst (N:=12) rfl ?_);refine Kd.R_make (Kd.int .i64) _ 3 rfl (N:=12) rfl 22 _ _ rfl (l1.length:Int) rfl rfl Try.underlying22 (.int .i64 0) 8 info3 rfl (by decide) (by omega) 0 (ok:=fun _=>True) (okp:=fun _=>True) rfl (fun _ hk=>hk) trivial (of_decide_eq_true (by assumption)) (Nat.le_trans (Nat.mul_le_mul_right _ (of_decide_eq_true (by assumption):(l1.length:Int).toNat ≤ 35184372088832)) (by omega)) (Below.refl _ _) (Nat.le_refl _) ?_;intro v198 w9 ho10 hb hg_ hnew_;clear hg_ hnew_;(first | rw [← Ny197.out] at ho10 | (simp only [Int.reduceToNat] at ho10;rw [← Ny197.out] at ho10));have n0_:=Aside0.mk (Kd.R_lower ho10 (below_size (by exact HB.out)));have n1_:=Aside0.mk (blk_below (g:=gb196) (o:=.cells #[.slice A0_0 l0_0.length c0_0,.slice A0_1 l0_1.length c0_1] 28 (0,0)) (by exact BK196.out) hb);have n2_:=Aside0.mk (below_step (by exact HB.out) hb);clear BK196;clear HB;have HO199:=n0_;have BK196:=n1_;have HB:=n2_;clear n0_ n1_ n2_;clear hb ho10;have hcz11_0:w9.cell? ⟨gb196,0,none⟩ = some (.slice A0_0 l0_0.length c0_0):=(blk_cell BK196.out 0).trans rfl;have hcz11_1:w9.cell? ⟨gb196,1,none⟩ = some (.slice A0_1 l0_1.length c0_1):=(blk_cell BK196.out 1).trans rfl;have hfz11_0:=blk_frozen BK196.out 0;have hfz11_1:=blk_frozen BK196.out 1;have p200:0 ≤ (a2:Int):=of_decide_eq_true (by assumption);have q200:a2 < (l0_1.length:Int):=of_decide_eq_true (by assumption);obtain ⟨ad200,A200_0,c200_0,e200,hx200_0,hl200_0,hi200_0⟩:=at_L1 HR0_1.out a2 p200 q200;cases e200;replace hx200_0:=(HB.out.cell (World.block_lt_of_cell? w _ hx200_0)).trans hx200_0;have HR200_0:=Aside0.mk hi200_0;have HC200_0:=Aside0.mk hl200_0;clear hi200_0 hl200_0;replace p200:=eq_true p200;replace q200:=eq_true q200))
     go_loopg [19] k (fun kq v19 w'=>∃ (x7_1:List Int) (x19_1:Int),v19 = .int .i64 x19_1∧Aside0 (impl_sums.l0 kq l1 x7_1 (rd_L1 l0_1 a2) ((rd_L1 l0_1 a2).length:Int) x19_1 = some r)∧Aside0 (kq ≤ k)∧Aside0 (Kd.R (Kd.int .i64) 3 w' w.heap.size (fun _=>True) v198 x7_1)∧Aside0 (w'.heap[gb196]? = some (.cells #[(.slice A0_0 l0_0.length c0_0),(.slice (some ad200) l0_1.length c0_1)] 28 (0,0)))∧Aside0 (Below w.heap.size w w'))
     case atStart=>exact ⟨(y197),(0),(by first | rfl | (simp;done) | (simp [*];done)),H',⟨Nat.le_refl _⟩,⟨by exact HO199.out⟩,⟨by exact BK196.out⟩,⟨by exact HB.out⟩⟩
     case round =>
      clear H'
      try clear c1
      try clear c2
      try clear p2
      try clear q2
      try clear hx2
      try clear c4
      try clear c4b0
      try clear c4b1
      try clear c5
      try clear c5b0
      try clear c5b1
      try clear c6
      try clear c6b0
      try clear c7
      try clear c7b0
      try clear hcz11_0
      try clear hcz11_1
      try clear hfz11_0
      try clear hfz11_1
      try clear hx200_0
      try clear p200
      try clear q200
      obtain ⟨x7_1,x19_1,rfl,HA,HK1,HO_7,BK196,HB⟩:=hrel
      cases gk with
      | zero=>exact absurd HA.out (by simp [impl_sums.l0])
      | succ k1 =>
       have H:=HA.out
       clear HA
       simp only [impl_sums.l0] at H
       by_cases c12:x19_1 < ((rd_L1 l0_1 a2).length:Int)
       ·rw [if_pos c12] at H
        have c12b0:decide (x19_1 < ((rd_L1 l0_1 a2).length:Int)) = true:=decide_eq_true c12
        clear c12
        by_cases c13:0 ≤ x19_1
        ·rw [if_pos c13] at H
         have c13b0:decide (0 ≤ x19_1) = true:=decide_eq_true c13
         clear c13
         by_cases c14:x19_1 < ((rd_L1 l0_1 a2).length:Int)
         ·rw [if_pos c14] at H
          have c14b0:decide (x19_1 < ((rd_L1 l0_1 a2).length:Int)) = true:=decide_eq_true c14
          clear c14
          by_cases c15:x19_1 < (l1.length:Int)
          ·rw [if_pos c15] at H
           have c15b0:decide (x19_1 < (l1.length:Int)) = true:=decide_eq_true c15
           clear c15
           by_cases c16:0 ≤ (rd l1 x19_1)
           ·rw [if_pos c16] at H
            have c16b0:decide (0 ≤ (rd l1 x19_1)) = true:=decide_eq_true c16
            clear c16
            by_cases c17:(rd l1 x19_1) < (x7_1.length:Int)
            ·rw [if_pos c17] at H
             have c17b0:decide ((rd l1 x19_1) < (x7_1.length:Int)) = true:=decide_eq_true c17
             clear c17
             obtain ⟨y204,hy204⟩:∃ y_:List Int,y_ = (x7_1.set ((rd l1 x19_1):Int).toNat (wrap64 ((rd x7_1 (rd l1 x19_1)) + (rd (rd_L1 l0_1 a2) x19_1)))):=⟨_,rfl⟩
             replace H:(impl_sums.l0 k1 l1 y204 (rd_L1 l0_1 a2) ((rd_L1 l0_1 a2).length:Int) (wrap64 (x19_1 + 1))) = some r:=by rw [hy204];exact H
             have Ny204:=Aside0.mk hy204
             clear hy204
             have H':=Aside0.mk H
             clear H
             have p201:0 ≤ (x19_1:Int):=of_decide_eq_true (by assumption)
             have q201:x19_1 < ((rd_L1 l0_1 a2).length:Int):=of_decide_eq_true (by assumption)
             obtain ⟨ad201,e201,hx201_0⟩:=Kd.at_int HR200_0.out x19_1 p201 q201
             cases e201
             replace hx201_0:=(HB.out.cell (World.block_lt_of_cell? w _ hx201_0)).trans hx201_0
             replace p201:=eq_true p201
             replace q201:=eq_true q201
             have p202:0 ≤ (x19_1:Int):=of_decide_eq_true (by assumption)
             have q202:x19_1 < (l1.length:Int):=of_decide_eq_true (by assumption)
             obtain ⟨ad202,e202,hx202_0⟩:=Kd.at_int HR1.out x19_1 p202 q202
             cases e202
             replace hx202_0:=(HB.out.cell (World.block_lt_of_cell? w _ hx202_0)).trans hx202_0
             replace p202:=eq_true p202
             replace q202:=eq_true q202
             obtain ⟨Ao19,co19,eo19⟩:=Kd.R_slice HO_7.out
             subst eo19
             have p203:0 ≤ ((rd l1 x19_1):Int):=of_decide_eq_true (by assumption)
             have q203:(rd l1 x19_1) < (x7_1.length:Int):=of_decide_eq_true (by assumption)
             obtain ⟨ad203,e203,hx203_0⟩:=Kd.at_int (Kd.R_reads' HO_7.out).2.2 (rd l1 x19_1) p203 q203
             cases e203
             replace p203:=eq_true p203
             replace q203:=eq_true q203
             have p18:0 ≤ ((rd l1 x19_1):Int):=of_decide_eq_true (by assumption)
             have q18:((rd l1 x19_1):Int) < ((x7_1.length:Int):Int):=of_decide_eq_true (by assumption)
             obtain ⟨go18,co18,eo18,gb18,gl18,cl18,HG18⟩:=Kd.R_form HO_7.out (by omega)
             (first | cases eo18 | (injection eo18 with ea_ en_ ec_;(first | subst ea_ | (injection ea_ with ea_;subst ea_));subst ec_;clear en_))
             have GB18:=Aside0.mk gb18
             have GG18:=Aside0.mk HG18
             clear gb18 gl18 HG18
             (first | simp only [add_plain] at hx203_0 | skip)
             obtain ⟨hx18_0,hf18_0⟩:=Kd.R_celln 0 HO_7.out ((rd l1 x19_1):Int) p18 q18
             replace p18:=eq_true p18
             replace q18:=eq_true q18
             have HP20:=Kd.R_putg HO_7.out ((rd l1 x19_1):Int) (wrap64 ((rd x7_1 (rd l1 x19_1)) + (rd (rd_L1 l0_1 a2) x19_1)))
             go_wp2_with (first | ((with_reducible refine gate_store (t:=3) (p:=33) rfl ?_);refine store_event (t:=3) (p:=33) (v:=?vo_w21) (w1:=(wr.setCell ⟨go18,((rd l1 x19_1):Int).toNat,none⟩ (.int .i64 (wrap64 ((rd x7_1 (rd l1 x19_1)) + (rd (rd_L1 l0_1 a2) x19_1)))))) ?hg ?ho ?hn ?hr ?_;(case ho=>rfl);(case hg=>rfl);(case hn=>rfl);(case hr=>first | (go_simp;done) | (go_simp;rfl));intro w21 hw;have hg:wr.grownBy w21 (some go18):=(by rw [hw];exact HP20.2);have hp_:Kd.R (Kd.int .i64) 3 w21 w.heap.size (fun _=>True) (.slice (some ⟨go18,0,none⟩) x7_1.length co19) y204:=(by rw [hw,Ny204.out];exact HP20.1);clear HP20;have n0_:=Aside0.mk (hp_);have n1_:=Aside0.mk (blk_grown (g:=gb196) (o:=.cells #[.slice A0_0 l0_0.length c0_0,.slice (some ad200) l0_1.length c0_1] 28 (0,0)) (by exact BK196.out) hg (Kd.R_ne HO_7.out BK196.out (by decide)));have n2_:=Aside0.mk ((by rw [hw];exact below_set (HB.out) GB18.out:Below w.heap.size w w21));clear HO_7;clear BK196;clear HB;have HO_7:=n0_;have BK196:=n1_;have HB:=n2_;clear n0_ n1_ n2_;clear hg hw hp_))
             go_roundg k1
             case measure=>have:=HK1.out;omega
             case rel=>exact ⟨(y204),(wrap64 (x19_1 + 1)),(by first | rfl | (simp;done) | (simp [*];done)),H',⟨by have:=HK1.out;omega⟩,⟨by exact HO_7.out⟩,⟨by exact BK196.out⟩,⟨by exact HB.out⟩⟩
            ·rw [if_neg c17] at H
             exact absurd H (by simp)
           ·rw [if_neg c16] at H
            exact absurd H (by simp)
          ·rw [if_neg c15] at H
           exact absurd H (by simp)
         ·rw [if_neg c14] at H
          exact absurd H (by simp)
        ·rw [if_neg c13] at H
         exact absurd H (by simp)
       ·rw [if_neg c12] at H
        have c12b0:decide (x19_1 < ((rd_L1 l0_1 a2).length:Int)) = false:=decide_eq_false c12
        clear c12
        obtain rfl:=Option.some.inj H
        go_wp2
        go_ret
        exact ⟨_,rfl,by exact HO_7.out,by exact HB.out⟩
    ·rw [if_neg c7] at H
     exact absurd H (by simp)
   ·rw [if_neg c6] at H
    exact absurd H (by simp)
  ·rw [if_neg c5] at H
   exact absurd H (by simp)
 ·rw [if_neg c4] at H
  exact absurd H (by simp)
def impl_stepsOk.f (k:Nat) (l0_0:List Int) (l0_1:List (List Int)) (a1:Int) (a2:Int):Option (Bool):=(impl_ChancesOk.f k l0_0 l0_1).bind fun t283=>(if t283 = true then (if a1 ≥ 0 then (if a1 < (l0_0.length:Int) then (if a2 ≥ 0 then (some (decide (a2 ≤ 12))) else (some false)) else (some false)) else (some false)) else (some false))
theorem impl_stepsOk.mono:∀ a0 a1 a2 a3 k,LeO (impl_stepsOk.f k a0 a1 a2 a3) (impl_stepsOk.f (k + 1) a0 a1 a2 a3):=by
 intro a0 a1 a2 a3 k
 unfold impl_stepsOk.f
 repeat' first
   | (with_reducible exact impl_ChancesOk.mono _ _ _)
   | (with_reducible exact LeO.refl _)
   | (with_reducible exact LeO.none _)
   | (with_reducible refine LeO.ite ?_ ?_)
   | (with_reducible refine LeO.bind ?_ (fun _=>?_))
   | exact impl_ChancesOk.mono _ _ _
   | exact LeO.none _
   | refine LeO.ite ?_ ?_
   | refine LeO.bind ?_ (fun _=>?_)
set_option maxHeartbeats 8000000 in
set_option maxRecDepth 100000 in
theorem impl_stepsOk.calls (k:Nat) (A0_0:Option Addr) (c0_0:Nat) (l0_0:List Int) (A0_1:Option Addr) (c0_1:Nat) (l0_1:List (List Int)) (a1:Int) (a2:Int) (r:Bool) (w:World) (hr0_0:Kd.C (Kd.int .i64) w A0_0 l0_0.length l0_0) (hc0_0:l0_0.length ≤ c0_0) (hr0_1:Kd.C (Kd.slice 3 (Kd.int .i64)) w A0_1 l0_1.length l0_1) (hc0_1:l0_1.length ≤ c0_1) (h:impl_stepsOk.f k l0_0 l0_1 a1 a2 = some r) :
  Calls Try.prog 50 #[.agg #[.slice A0_0 l0_0.length c0_0,.slice A0_1 l0_1.length c0_1],.int .i64 a1,.int .i64 a2] w fun e w'=>e = .returned (.bool r)∧Below w.heap.size w w':=by
 have hu28:=Try.underlying28
 have HR0_0:=Aside0.mk hr0_0
 have HC0_0:=Aside0.mk hc0_0
 clear hr0_0 hc0_0
 have HR0_1:=Aside0.mk hr0_1
 have HC0_1:=Aside0.mk hc0_1
 clear hr0_1 hc0_1
 have HB:=Aside0.mk (Below.refl w.heap.size w)
 have H:((impl_ChancesOk.f k l0_0 l0_1).bind fun t283=>(if t283 = true then (if a1 ≥ 0 then (if a1 < (l0_0.length:Int) then (if a2 ≥ 0 then (some (decide (a2 ≤ 12))) else (some false)) else (some false)) else (some false)) else (some false))) = some r:=h
 clear h
 replace H:=Option.bind_eq_some_iff.mp H
 obtain ⟨t283,A40,H⟩:=H
 replace H:(if t283 = true then (if a1 ≥ 0 then (if a1 < (l0_0.length:Int) then (if a2 ≥ 0 then (some (decide (a2 ≤ 12))) else (some false)) else (some false)) else (some false)) else (some false)) = some r:=H
 have A4:=Aside0.mk A40
 clear A40
 by_cases c5:t283 = true
 ·subst c5
  have H1:(if a1 ≥ 0 then (if a1 < (l0_0.length:Int) then (if a2 ≥ 0 then (some (decide (a2 ≤ 12))) else (some false)) else (some false)) else (some false)) = some r:=by rw [if_pos rfl] at H;exact H
  clear H
  have H:=H1
  clear H1
  by_cases c6:a1 ≥ 0
  ·rw [if_pos c6] at H
   have c6b0:decide (0 ≤ a1) = true:=decide_eq_true c6
   clear c6
   by_cases c7:a1 < (l0_0.length:Int)
   ·rw [if_pos c7] at H
    have c7b0:decide (a1 < (l0_0.length:Int)) = true:=decide_eq_true c7
    clear c7
    by_cases c8:a2 ≥ 0
    ·rw [if_pos c8] at H
     have c8b0:decide (0 ≤ a2) = true:=decide_eq_true c8
     clear c8
     obtain rfl:=Option.some.inj H
     go_enter Try.func50,Try.ntmps50
     go_wp2_with (first | ((with_reducible refine gate_dst (N:=3) rfl ?_);(try (refine gate_guard (by rfl) ?_;dsimp only));refine box_event ?hg (N:=3) ?hd (cs:=#[.slice A0_0 l0_0.length c0_0,.slice A0_1 l0_1.length c0_1]) (t:=28) ?hr ?_;(case hd=>rfl);(case hg=>rfl);(case hr=>first | (go_simp;done) | (go_simp;rfl));intro gb282 hg w9 hbox hb;have n0_:=Aside0.mk (below_step (by repeat (with_reducible first | exact HB.out | apply below_alloc | apply pw_below_drewN | apply below_drew1)) hb);have n1_:=Aside0.mk (hbox);have n2_:=Aside0.mk ((by rw [hg];exact (below_size (by repeat (with_reducible first | exact HB.out | apply below_alloc | apply pw_below_drewN | apply below_drew1))):w.heap.size ≤ gb282));have n3_:=Aside0.mk ((by rw [hg];exact (below_size (by repeat (with_reducible first | exact HB.out | apply below_alloc | apply pw_below_drewN | apply below_drew1))):w.heap.size ≤ gb282));clear HB;have HB:=n0_;have BK282:=n1_;have GW282:=n2_;have GE282:=n3_;clear n0_ n1_ n2_ n3_;clear hb hbox hg;have hcz10_0:w9.cell? ⟨gb282,0,none⟩ = some (.slice A0_0 l0_0.length c0_0):=(blk_cell BK282.out 0).trans rfl;have hcz10_1:w9.cell? ⟨gb282,1,none⟩ = some (.slice A0_1 l0_1.length c0_1):=(blk_cell BK282.out 1).trans rfl;have hfz10_0:=blk_frozen BK282.out 0;have hfz10_1:=blk_frozen BK282.out 1) | ((with_reducible refine gate_callee (f:=16) rfl ?_);refine goesL_ (some 8) rfl rfl Try.func16 (by kernel_rfl) rfl #[.agg #[.slice A0_0 l0_0.length c0_0,.slice A0_1 l0_1.length c0_1]] rfl (by (try simp only [List.map_toArray,List.map_cons,List.map_nil]);first | done | rfl | (simp only [List.length_drop,List.length_take];rfl)) ?_;(with_reducible refine (impl_ChancesOk.calls k _ _ l0_0 _ _ l0_1 true _ ?side1 ?side2 ?side3 ?side4 A4.out).mono ?_);(case side1=>repeat (first | exact (Kd.C_below HR0_0.out HB.out) | (with_reducible refine Kd.C_alloc ?_ _) | (with_reducible refine Kd.C_drewN ?_ _) | (with_reducible refine Kd.C_drew ?_)));(case side2=>exact HC0_0.out);(case side3=>repeat (first | exact (Kd.C_below HR0_1.out HB.out) | (with_reducible refine Kd.C_alloc ?_ _) | (with_reducible refine Kd.C_drewN ?_ _) | (with_reducible refine Kd.C_drew ?_)));(case side4=>exact HC0_1.out);rintro e w11 ⟨rfl,hb⟩;refine ⟨_,rfl,?_⟩;have n0_:=Aside0.mk (blk_below (g:=gb282) (o:=.cells #[.slice A0_0 l0_0.length c0_0,.slice A0_1 l0_1.length c0_1] 28 (0,0)) (by (with_reducible repeat (first | refine blk_drewN ?_ _ | refine blk_drew ?_ | refine blk_alloc ?_ _));exact BK282.out) hb);have n1_:=Aside0.mk (below_step (by repeat (with_reducible first | exact HB.out | apply below_alloc | apply pw_below_drewN | apply below_drew1 | refine below_set ?_ GE282.out)) hb);clear BK282;clear HB;have BK282:=n0_;have HB:=n1_;clear n0_ n1_;(try clear hb);(try clear hb2);(try clear hk);(try clear hi);have hcz12_0:w11.cell? ⟨gb282,0,none⟩ = some (.slice A0_0 l0_0.length c0_0):=(blk_cell BK282.out 0).trans rfl;have hcz12_1:w11.cell? ⟨gb282,1,none⟩ = some (.slice A0_1 l0_1.length c0_1):=(blk_cell BK282.out 1).trans rfl;have hfz12_0:=blk_frozen BK282.out 0;have hfz12_1:=blk_frozen BK282.out 1))
     go_ret
     exact ⟨rfl,by exact HB.out⟩
    ·rw [if_neg c8] at H
     have c8b0:decide (0 ≤ a2) = false:=decide_eq_false c8
     clear c8
     obtain rfl:=Option.some.inj H
     go_enter Try.func50,Try.ntmps50
     go_wp2_with (first | ((with_reducible refine gate_dst (N:=3) rfl ?_);(try (refine gate_guard (by rfl) ?_;dsimp only));refine box_event ?hg (N:=3) ?hd (cs:=#[.slice A0_0 l0_0.length c0_0,.slice A0_1 l0_1.length c0_1]) (t:=28) ?hr ?_;(case hd=>rfl);(case hg=>rfl);(case hr=>first | (go_simp;done) | (go_simp;rfl));intro gb282 hg w13 hbox hb;have n0_:=Aside0.mk (below_step (by repeat (with_reducible first | exact HB.out | apply below_alloc | apply pw_below_drewN | apply below_drew1)) hb);have n1_:=Aside0.mk (hbox);have n2_:=Aside0.mk ((by rw [hg];exact (below_size (by repeat (with_reducible first | exact HB.out | apply below_alloc | apply pw_below_drewN | apply below_drew1))):w.heap.size ≤ gb282));have n3_:=Aside0.mk ((by rw [hg];exact (below_size (by repeat (with_reducible first | exact HB.out | apply below_alloc | apply pw_below_drewN | apply below_drew1))):w.heap.size ≤ gb282));clear HB;have HB:=n0_;have BK282:=n1_;have GW282:=n2_;have GE282:=n3_;clear n0_ n1_ n2_ n3_;clear hb hbox hg;have hcz14_0:w13.cell? ⟨gb282,0,none⟩ = some (.slice A0_0 l0_0.length c0_0):=(blk_cell BK282.out 0).trans rfl;have hcz14_1:w13.cell? ⟨gb282,1,none⟩ = some (.slice A0_1 l0_1.length c0_1):=(blk_cell BK282.out 1).trans rfl;have hfz14_0:=blk_frozen BK282.out 0;have hfz14_1:=blk_frozen BK282.out 1) | ((with_reducible refine gate_callee (f:=16) rfl ?_);refine goesL_ (some 8) rfl rfl Try.func16 (by kernel_rfl) rfl #[.agg #[.slice A0_0 l0_0.length c0_0,.slice A0_1 l0_1.length c0_1]] rfl (by (try simp only [List.map_toArray,List.map_cons,List.map_nil]);first | done | rfl | (simp only [List.length_drop,List.length_take];rfl)) ?_;(with_reducible refine (impl_ChancesOk.calls k _ _ l0_0 _ _ l0_1 true _ ?side1 ?side2 ?side3 ?side4 A4.out).mono ?_);(case side1=>repeat (first | exact (Kd.C_below HR0_0.out HB.out) | (with_reducible refine Kd.C_alloc ?_ _) | (with_reducible refine Kd.C_drewN ?_ _) | (with_reducible refine Kd.C_drew ?_)));(case side2=>exact HC0_0.out);(case side3=>repeat (first | exact (Kd.C_below HR0_1.out HB.out) | (with_reducible refine Kd.C_alloc ?_ _) | (with_reducible refine Kd.C_drewN ?_ _) | (with_reducible refine Kd.C_drew ?_)));(case side4=>exact HC0_1.out);rintro e w15 ⟨rfl,hb⟩;refine ⟨_,rfl,?_⟩;have n0_:=Aside0.mk (blk_below (g:=gb282) (o:=.cells #[.slice A0_0 l0_0.length c0_0,.slice A0_1 l0_1.length c0_1] 28 (0,0)) (by (with_reducible repeat (first | refine blk_drewN ?_ _ | refine blk_drew ?_ | refine blk_alloc ?_ _));exact BK282.out) hb);have n1_:=Aside0.mk (below_step (by repeat (with_reducible first | exact HB.out | apply below_alloc | apply pw_below_drewN | apply below_drew1 | refine below_set ?_ GE282.out)) hb);clear BK282;clear HB;have BK282:=n0_;have HB:=n1_;clear n0_ n1_;(try clear hb);(try clear hb2);(try clear hk);(try clear hi);have hcz16_0:w15.cell? ⟨gb282,0,none⟩ = some (.slice A0_0 l0_0.length c0_0):=(blk_cell BK282.out 0).trans rfl;have hcz16_1:w15.cell? ⟨gb282,1,none⟩ = some (.slice A0_1 l0_1.length c0_1):=(blk_cell BK282.out 1).trans rfl;have hfz16_0:=blk_frozen BK282.out 0;have hfz16_1:=blk_frozen BK282.out 1))
     go_ret
     exact ⟨rfl,by exact HB.out⟩
   ·rw [if_neg c7] at H
    have c7b0:decide (a1 < (l0_0.length:Int)) = false:=decide_eq_false c7
    clear c7
    obtain rfl:=Option.some.inj H
    go_enter Try.func50,Try.ntmps50
    go_wp2_with (first | ((with_reducible refine gate_dst (N:=3) rfl ?_);(try (refine gate_guard (by rfl) ?_;dsimp only));refine box_event ?hg (N:=3) ?hd (cs:=#[.slice A0_0 l0_0.length c0_0,.slice A0_1 l0_1.length c0_1]) (t:=28) ?hr ?_;(case hd=>rfl);(case hg=>rfl);(case hr=>first | (go_simp;done) | (go_simp;rfl));intro gb282 hg w17 hbox hb;have n0_:=Aside0.mk (below_step (by repeat (with_reducible first | exact HB.out | apply below_alloc | apply pw_below_drewN | apply below_drew1)) hb);have n1_:=Aside0.mk (hbox);have n2_:=Aside0.mk ((by rw [hg];exact (below_size (by repeat (with_reducible first | exact HB.out | apply below_alloc | apply pw_below_drewN | apply below_drew1))):w.heap.size ≤ gb282));have n3_:=Aside0.mk ((by rw [hg];exact (below_size (by repeat (with_reducible first | exact HB.out | apply below_alloc | apply pw_below_drewN | apply below_drew1))):w.heap.size ≤ gb282));clear HB;have HB:=n0_;have BK282:=n1_;have GW282:=n2_;have GE282:=n3_;clear n0_ n1_ n2_ n3_;clear hb hbox hg;have hcz18_0:w17.cell? ⟨gb282,0,none⟩ = some (.slice A0_0 l0_0.length c0_0):=(blk_cell BK282.out 0).trans rfl;have hcz18_1:w17.cell? ⟨gb282,1,none⟩ = some (.slice A0_1 l0_1.length c0_1):=(blk_cell BK282.out 1).trans rfl;have hfz18_0:=blk_frozen BK282.out 0;have hfz18_1:=blk_frozen BK282.out 1) | ((with_reducible refine gate_callee (f:=16) rfl ?_);refine goesL_ (some 8) rfl rfl Try.func16 (by kernel_rfl) rfl #[.agg #[.slice A0_0 l0_0.length c0_0,.slice A0_1 l0_1.length c0_1]] rfl (by (try simp only [List.map_toArray,List.map_cons,List.map_nil]);first | done | rfl | (simp only [List.length_drop,List.length_take];rfl)) ?_;(with_reducible refine (impl_ChancesOk.calls k _ _ l0_0 _ _ l0_1 true _ ?side1 ?side2 ?side3 ?side4 A4.out).mono ?_);(case side1=>repeat (first | exact (Kd.C_below HR0_0.out HB.out) | (with_reducible refine Kd.C_alloc ?_ _) | (with_reducible refine Kd.C_drewN ?_ _) | (with_reducible refine Kd.C_drew ?_)));(case side2=>exact HC0_0.out);(case side3=>repeat (first | exact (Kd.C_below HR0_1.out HB.out) | (with_reducible refine Kd.C_alloc ?_ _) | (with_reducible refine Kd.C_drewN ?_ _) | (with_reducible refine Kd.C_drew ?_)));(case side4=>exact HC0_1.out);rintro e w19 ⟨rfl,hb⟩;refine ⟨_,rfl,?_⟩;have n0_:=Aside0.mk (blk_below (g:=gb282) (o:=.cells #[.slice A0_0 l0_0.length c0_0,.slice A0_1 l0_1.length c0_1] 28 (0,0)) (by (with_reducible repeat (first | refine blk_drewN ?_ _ | refine blk_drew ?_ | refine blk_alloc ?_ _));exact BK282.out) hb);have n1_:=Aside0.mk (below_step (by repeat (with_reducible first | exact HB.out | apply below_alloc | apply pw_below_drewN | apply below_drew1 | refine below_set ?_ GE282.out)) hb);clear BK282;clear HB;have BK282:=n0_;have HB:=n1_;clear n0_ n1_;(try clear hb);(try clear hb2);(try clear hk);(try clear hi);have hcz20_0:w19.cell? ⟨gb282,0,none⟩ = some (.slice A0_0 l0_0.length c0_0):=(blk_cell BK282.out 0).trans rfl;have hcz20_1:w19.cell? ⟨gb282,1,none⟩ = some (.slice A0_1 l0_1.length c0_1):=(blk_cell BK282.out 1).trans rfl;have hfz20_0:=blk_frozen BK282.out 0;have hfz20_1:=blk_frozen BK282.out 1))
    go_ret
    exact ⟨rfl,by exact HB.out⟩
  ·rw [if_neg c6] at H
   have c6b0:decide (0 ≤ a1) = false:=decide_eq_false c6
   clear c6
   obtain rfl:=Option.some.inj H
   go_enter Try.func50,Try.ntmps50
   go_wp2_with (first | ((with_reducible refine gate_dst (N:=3) rfl ?_);(try (refine gate_guard (by rfl) ?_;dsimp only));refine box_event ?hg (N:=3) ?hd (cs:=#[.slice A0_0 l0_0.length c0_0,.slice A0_1 l0_1.length c0_1]) (t:=28) ?hr ?_;(case hd=>rfl);(case hg=>rfl);(case hr=>first | (go_simp;done) | (go_simp;rfl));intro gb282 hg w21 hbox hb;have n0_:=Aside0.mk (below_step (by repeat (with_reducible first | exact HB.out | apply below_alloc | apply pw_below_drewN | apply below_drew1)) hb);have n1_:=Aside0.mk (hbox);have n2_:=Aside0.mk ((by rw [hg];exact (below_size (by repeat (with_reducible first | exact HB.out | apply below_alloc | apply pw_below_drewN | apply below_drew1))):w.heap.size ≤ gb282));have n3_:=Aside0.mk ((by rw [hg];exact (below_size (by repeat (with_reducible first | exact HB.out | apply below_alloc | apply pw_below_drewN | apply below_drew1))):w.heap.size ≤ gb282));clear HB;have HB:=n0_;have BK282:=n1_;have GW282:=n2_;have GE282:=n3_;clear n0_ n1_ n2_ n3_;clear hb hbox hg;have hcz22_0:w21.cell? ⟨gb282,0,none⟩ = some (.slice A0_0 l0_0.length c0_0):=(blk_cell BK282.out 0).trans rfl;have hcz22_1:w21.cell? ⟨gb282,1,none⟩ = some (.slice A0_1 l0_1.length c0_1):=(blk_cell BK282.out 1).trans rfl;have hfz22_0:=blk_frozen BK282.out 0;have hfz22_1:=blk_frozen BK282.out 1) | ((with_reducible refine gate_callee (f:=16) rfl ?_);refine goesL_ (some 8) rfl rfl Try.func16 (by kernel_rfl) rfl #[.agg #[.slice A0_0 l0_0.length c0_0,.slice A0_1 l0_1.length c0_1]] rfl (by (try simp only [List.map_toArray,List.map_cons,List.map_nil]);first | done | rfl | (simp only [List.length_drop,List.length_take];rfl)) ?_;(with_reducible refine (impl_ChancesOk.calls k _ _ l0_0 _ _ l0_1 true _ ?side1 ?side2 ?side3 ?side4 A4.out).mono ?_);(case side1=>repeat (first | exact (Kd.C_below HR0_0.out HB.out) | (with_reducible refine Kd.C_alloc ?_ _) | (with_reducible refine Kd.C_drewN ?_ _) | (with_reducible refine Kd.C_drew ?_)));(case side2=>exact HC0_0.out);(case side3=>repeat (first | exact (Kd.C_below HR0_1.out HB.out) | (with_reducible refine Kd.C_alloc ?_ _) | (with_reducible refine Kd.C_drewN ?_ _) | (with_reducible refine Kd.C_drew ?_)));(case side4=>exact HC0_1.out);rintro e w23 ⟨rfl,hb⟩;refine ⟨_,rfl,?_⟩;have n0_:=Aside0.mk (blk_below (g:=gb282) (o:=.cells #[.slice A0_0 l0_0.length c0_0,.slice A0_1 l0_1.length c0_1] 28 (0,0)) (by (with_reducible repeat (first | refine blk_drewN ?_ _ | refine blk_drew ?_ | refine blk_alloc ?_ _));exact BK282.out) hb);have n1_:=Aside0.mk (below_step (by repeat (with_reducible first | exact HB.out | apply below_alloc | apply pw_below_drewN | apply below_drew1 | refine below_set ?_ GE282.out)) hb);clear BK282;clear HB;have BK282:=n0_;have HB:=n1_;clear n0_ n1_;(try clear hb);(try clear hb2);(try clear hk);(try clear hi)))
   go_ret
   exact ⟨rfl,by exact HB.out⟩
 ·replace c5:=Bool.eq_false_iff.mpr c5
  subst c5
  have H1:(some false) = some r:=by rw [if_neg (show ¬ (false = true) by decide)] at H;exact H
  clear H
  have H:=H1
  clear H1
  obtain rfl:=Option.some.inj H
  go_enter Try.func50,Try.ntmps50
  go_wp2_with (first | ((with_reducible refine gate_dst (N:=3) rfl ?_);(try (refine gate_guard (by rfl) ?_;dsimp only));refine box_event ?hg (N:=3) ?hd (cs:=#[.slice A0_0 l0_0.length c0_0,.slice A0_1 l0_1.length c0_1]) (t:=28) ?hr ?_;(case hd=>rfl);(case hg=>rfl);(case hr=>first | (go_simp;done) | (go_simp;rfl));intro gb282 hg w24 hbox hb;have n0_:=Aside0.mk (below_step (by repeat (with_reducible first | exact HB.out | apply below_alloc | apply pw_below_drewN | apply below_drew1)) hb);have n1_:=Aside0.mk (hbox);have n2_:=Aside0.mk ((by rw [hg];exact (below_size (by repeat (with_reducible first | exact HB.out | apply below_alloc | apply pw_below_drewN | apply below_drew1))):w.heap.size ≤ gb282));have n3_:=Aside0.mk ((by rw [hg];exact (below_size (by repeat (with_reducible first | exact HB.out | apply below_alloc | apply pw_below_drewN | apply below_drew1))):w.heap.size ≤ gb282));clear HB;have HB:=n0_;have BK282:=n1_;have GW282:=n2_;have GE282:=n3_;clear n0_ n1_ n2_ n3_;clear hb hbox hg;have hcz25_0:w24.cell? ⟨gb282,0,none⟩ = some (.slice A0_0 l0_0.length c0_0):=(blk_cell BK282.out 0).trans rfl;have hcz25_1:w24.cell? ⟨gb282,1,none⟩ = some (.slice A0_1 l0_1.length c0_1):=(blk_cell BK282.out 1).trans rfl;have hfz25_0:=blk_frozen BK282.out 0;have hfz25_1:=blk_frozen BK282.out 1) | ((with_reducible refine gate_callee (f:=16) rfl ?_);refine goesL_ (some 8) rfl rfl Try.func16 (by kernel_rfl) rfl #[.agg #[.slice A0_0 l0_0.length c0_0,.slice A0_1 l0_1.length c0_1]] rfl (by (try simp only [List.map_toArray,List.map_cons,List.map_nil]);first | done | rfl | (simp only [List.length_drop,List.length_take];rfl)) ?_;(with_reducible refine (impl_ChancesOk.calls k _ _ l0_0 _ _ l0_1 false _ ?side1 ?side2 ?side3 ?side4 A4.out).mono ?_);(case side1=>repeat (first | exact (Kd.C_below HR0_0.out HB.out) | (with_reducible refine Kd.C_alloc ?_ _) | (with_reducible refine Kd.C_drewN ?_ _) | (with_reducible refine Kd.C_drew ?_)));(case side2=>exact HC0_0.out);(case side3=>repeat (first | exact (Kd.C_below HR0_1.out HB.out) | (with_reducible refine Kd.C_alloc ?_ _) | (with_reducible refine Kd.C_drewN ?_ _) | (with_reducible refine Kd.C_drew ?_)));(case side4=>exact HC0_1.out);rintro e w26 ⟨rfl,hb⟩;refine ⟨_,rfl,?_⟩;have n0_:=Aside0.mk (blk_below (g:=gb282) (o:=.cells #[.slice A0_0 l0_0.length c0_0,.slice A0_1 l0_1.length c0_1] 28 (0,0)) (by (with_reducible repeat (first | refine blk_drewN ?_ _ | refine blk_drew ?_ | refine blk_alloc ?_ _));exact BK282.out) hb);have n1_:=Aside0.mk (below_step (by repeat (with_reducible first | exact HB.out | apply below_alloc | apply pw_below_drewN | apply below_drew1 | refine below_set ?_ GE282.out)) hb);clear BK282;clear HB;have BK282:=n0_;have HB:=n1_;clear n0_ n1_;(try clear hb);(try clear hb2);(try clear hk);(try clear hi)))
  go_ret
  exact ⟨rfl,by exact HB.out⟩
def impl_begin.f (l0_0:List Int) (l0_1:List (List Int)) (a1:Int):Option (List Int):=if 0 ≤ (l0_0.length:Int) then (if ((l0_0.length:Int):Int).toNat ≤ 35184372088832 then ((some (List.replicate ((l0_0.length:Int):Int).toNat 0:List Int)).bind fun y285=>(if 0 ≤ a1 then (if a1 < (y285.length:Int) then (some (y285.set (a1:Int).toNat 1)) else (none)) else (none))) else (none)) else (none)
set_option maxHeartbeats 8000000 in
set_option maxRecDepth 100000 in
theorem impl_begin.calls (A0_0:Option Addr) (c0_0:Nat) (l0_0:List Int) (A0_1:Option Addr) (c0_1:Nat) (l0_1:List (List Int)) (a1:Int) (r:List Int) (w:World) (hr0_0:Kd.C (Kd.int .i64) w A0_0 l0_0.length l0_0) (hc0_0:l0_0.length ≤ c0_0) (hr0_1:Kd.C (Kd.slice 3 (Kd.int .i64)) w A0_1 l0_1.length l0_1) (hc0_1:l0_1.length ≤ c0_1) (h:impl_begin.f l0_0 l0_1 a1 = some r) :
  Calls Try.prog 51 #[.agg #[.slice A0_0 l0_0.length c0_0,.slice A0_1 l0_1.length c0_1],.int .i64 a1] w fun e w'=>∃ v0_:Value,e = .returned (v0_)∧Kd.R (Kd.int .i64) 3 w' w.heap.size (fun _=>True) v0_ r∧Below w.heap.size w w':=by
 have hu28:=Try.underlying28
 have HR0_0:=Aside0.mk hr0_0
 have HC0_0:=Aside0.mk hc0_0
 clear hr0_0 hc0_0
 have HR0_1:=Aside0.mk hr0_1
 have HC0_1:=Aside0.mk hc0_1
 clear hr0_1 hc0_1
 have HB:=Aside0.mk (Below.refl w.heap.size w)
 have H:(if 0 ≤ (l0_0.length:Int) then (if ((l0_0.length:Int):Int).toNat ≤ 35184372088832 then ((some (List.replicate ((l0_0.length:Int):Int).toNat 0:List Int)).bind fun y285=>(if 0 ≤ a1 then (if a1 < (y285.length:Int) then (some (y285.set (a1:Int).toNat 1)) else (none)) else (none))) else (none)) else (none)) = some r:=h
 clear h
 by_cases c3:0 ≤ (l0_0.length:Int)
 ·rw [if_pos c3] at H
  have c3b0:=eq_true c3
  have c3b1:decide (0 ≤ (l0_0.length:Int)) = true:=decide_eq_true c3
  clear c3
  by_cases c4:((l0_0.length:Int):Int).toNat ≤ 35184372088832
  ·rw [if_pos c4] at H
   have c4b0:=eq_true c4
   have c4b1:decide (((l0_0.length:Int):Int).toNat ≤ 35184372088832) = true:=decide_eq_true c4
   clear c4
   obtain ⟨y285,hy285⟩:∃ y_:List Int,y_ = (List.replicate ((l0_0.length:Int):Int).toNat 0):=⟨_,rfl⟩
   replace H:(if 0 ≤ a1 then (if a1 < (y285.length:Int) then (some (y285.set (a1:Int).toNat 1)) else (none)) else (none)) = some r:=by rw [hy285];exact H
   have Ny285:=Aside0.mk hy285
   clear hy285
   by_cases c5:0 ≤ a1
   ·rw [if_pos c5] at H
    have c5b0:decide (0 ≤ a1) = true:=decide_eq_true c5
    clear c5
    by_cases c6:a1 < (y285.length:Int)
    ·rw [if_pos c6] at H
     have c6b0:decide (a1 < (y285.length:Int)) = true:=decide_eq_true c6
     clear c6
     obtain ⟨y288,hy288⟩:∃ y_:List Int,y_ = (y285.set (a1:Int).toNat 1):=⟨_,rfl⟩
     replace H:(some y288) = some r:=by rw [hy288];exact H
     have Ny288:=Aside0.mk hy288
     clear hy288
     obtain rfl:=Option.some.inj H
     go_enter Try.func51,Try.ntmps51
     go_wp2_with (first | ((with_reducible refine gate_dst (N:=2) rfl ?_);refine box_event ?hg (N:=2) ?hd (cs:=#[.slice A0_0 l0_0.length c0_0,.slice A0_1 l0_1.length c0_1]) (t:=28) ?hr ?_;(case hd=>rfl);(case hg=>rfl);(case hr=>first | (go_simp;done) | (go_simp;rfl));intro gb284 hg w8 hbox hb;have n0_:=Aside0.mk (below_step (by exact HB.out) hb);have n1_:=Aside0.mk (hbox);have n2_:=Aside0.mk ((by rw [hg];exact (below_size (by exact HB.out)):w.heap.size ≤ gb284));have n3_:=Aside0.mk ((by rw [hg];exact (below_size (by exact HB.out)):w.heap.size ≤ gb284));clear HB;have HB:=n0_;have BK284:=n1_;have GW284:=n2_;have GE284:=n3_;clear n0_ n1_ n2_ n3_;clear hb hbox hg;have hcz9_0:w8.cell? ⟨gb284,0,none⟩ = some (.slice A0_0 l0_0.length c0_0):=(blk_cell BK284.out 0).trans rfl;have hcz9_1:w8.cell? ⟨gb284,1,none⟩ = some (.slice A0_1 l0_1.length c0_1):=(blk_cell BK284.out 1).trans rfl;have hfz9_0:=blk_frozen BK284.out 0;have hfz9_1:=blk_frozen BK284.out 1) | ((with_reducible refine gate_dst (N:=9) rfl ?_);refine Kd.R_make (Kd.int .i64) _ 3 rfl (N:=9) rfl 22 _ _ rfl (l0_0.length:Int) rfl rfl Try.underlying22 (.int .i64 0) 8 info3 rfl (by decide) (by omega) 0 (ok:=fun _=>True) (okp:=fun _=>True) rfl (fun _ hk=>hk) trivial (of_decide_eq_true (by assumption)) (Nat.le_trans (Nat.mul_le_mul_right _ (of_decide_eq_true (by assumption):(l0_0.length:Int).toNat ≤ 35184372088832)) (by omega)) (Below.refl _ _) (Nat.le_refl _) ?_;intro v286 w10 ho11 hb hg_ hnew_;clear hg_ hnew_;(first | rw [← Ny285.out] at ho11 | (simp only [Int.reduceToNat] at ho11;rw [← Ny285.out] at ho11));have n0_:=Aside0.mk (Kd.R_lower ho11 (below_size (by exact HB.out)));have n1_:=Aside0.mk (blk_below (g:=gb284) (o:=.cells #[.slice A0_0 l0_0.length c0_0,.slice A0_1 l0_1.length c0_1] 28 (0,0)) (by exact BK284.out) hb);have n2_:=Aside0.mk (below_step (by exact HB.out) hb);clear BK284;clear HB;have HO287:=n0_;have BK284:=n1_;have HB:=n2_;clear n0_ n1_ n2_;clear hb ho11;have p7:0 ≤ (a1:Int):=of_decide_eq_true (by assumption);have q7:(a1:Int) < ((y285.length:Int):Int):=of_decide_eq_true (by assumption);obtain ⟨go7,co7,eo7,gb7,gl7,cl7,HG7⟩:=Kd.R_form HO287.out (by omega);(first | cases eo7 | (injection eo7 with ea_ en_ ec_;(first | subst ea_ | (injection ea_ with ea_;subst ea_));subst ec_;clear en_));have GB7:=Aside0.mk gb7;have GG7:=Aside0.mk HG7;clear gb7 gl7 HG7;obtain ⟨hx7_0,hf7_0⟩:=Kd.R_celln 0 HO287.out (a1:Int) p7 q7;replace p7:=eq_true p7;replace q7:=eq_true q7;obtain ⟨hy12_,hz12_⟩:=Kd.R_celln 0 HO287.out (a1:Int) (of_decide_eq_true (by assumption)) (of_decide_eq_true (by assumption));have HP12:=Kd.R_putg HO287.out (a1:Int) 1) | ((with_reducible refine gate_store (t:=3) (p:=12) rfl ?_);refine store_event (t:=3) (p:=12) (v:=?vo_w13) (w1:=(w10.setCell ⟨go7,(a1:Int).toNat,none⟩ (.int .i64 1))) ?hg ?ho ?hn ?hr ?_;(case ho=>rfl);(case hg=>rfl);(case hn=>rfl);(case hr=>first | (go_simp;done) | (go_simp;rfl));intro w13 hw;have hg:w10.grownBy w13 (some go7):=(by rw [hw];exact HP12.2);have hp_:Kd.R (Kd.int .i64) 3 w13 w.heap.size (fun _=>True) (.slice (some ⟨go7,0,none⟩) y285.length co7) y288:=(by rw [hw,Ny288.out];exact HP12.1);clear HP12;have n0_:=Aside0.mk (blk_grown (g:=gb284) (o:=.cells #[.slice A0_0 l0_0.length c0_0,.slice A0_1 l0_1.length c0_1] 28 (0,0)) (by exact BK284.out) hg (Kd.R_ne HO287.out BK284.out (by decide)));have n1_:=Aside0.mk (hp_);have n2_:=Aside0.mk ((by rw [hw];exact below_set (HB.out) GB7.out:Below w.heap.size w w13));clear BK284;clear HO287;clear HB;have BK284:=n0_;have HO287:=n1_;have HB:=n2_;clear n0_ n1_ n2_;clear hg hw hp_))
     go_ret
     exact ⟨_,rfl,by exact HO287.out,by exact HB.out⟩
    ·rw [if_neg c6] at H
     exact absurd H (by simp)
   ·rw [if_neg c5] at H
    exact absurd H (by simp)
  ·rw [if_neg c4] at H
   exact absurd H (by simp)
 ·rw [if_neg c3] at H
  exact absurd H (by simp)
mutual
def impl_spread.l0:Nat → List Int → List Int → Int → Int → List Int → List (List Int) → Option (List Int)
 | 0,_,_,_,_,_,_=>none
 | k + 1,x5,x13,x14,x15,x290000,x290001=>if x15 < x14 then (if 0 ≤ x15 then (if x15 < (x13.length:Int) then (if x15 < (x290001.length:Int) then (impl_spread.l1 k x5 (rd x13 x15) x13 x14 x15 (rd_L1 x290001 x15) ((rd_L1 x290001 x15).length:Int) 0 x290000 x290001) else (none)) else (none)) else (none)) else (some x5)
def impl_spread.l1:Nat → List Int → Int → List Int → Int → Int → List Int → Int → Int → List Int → List (List Int) → Option (List Int)
 | 0,_,_,_,_,_,_,_,_,_,_=>none
 | k + 1,x5,x7,x13,x14,x15,x24,x25,x26,x290000,x290001=>if x26 < x25 then (if 0 ≤ x26 then (if x26 < (x24.length:Int) then (if x26 < (x5.length:Int) then (impl_spread.l1 k (x5.set (x26:Int).toNat (wrap64 ((rd x5 x26) + (wrap64 (x7 * (rd x24 x26)))))) x7 x13 x14 x15 x24 x25 (wrap64 (x26 + 1)) x290000 x290001) else (none)) else (none)) else (none)) else (impl_spread.l0 k x5 x13 x14 (wrap64 (x15 + 1)) x290000 x290001)
end
def impl_spread.f (k:Nat) (l0_0:List Int) (l0_1:List (List Int)) (l1:List Int):Option (List Int):=if 0 ≤ (l1.length:Int) then (if ((l1.length:Int):Int).toNat ≤ 35184372088832 then (impl_spread.l0 k (List.replicate ((l1.length:Int):Int).toNat 0) l1 (l1.length:Int) 0 l0_0 l0_1) else (none)) else (none)
theorem impl_spread.mono_l:∀ k,(∀ y0 y1 y2 y3 y4 y5,LeO (impl_spread.l0 k y0 y1 y2 y3 y4 y5) (impl_spread.l0 (k + 1) y0 y1 y2 y3 y4 y5))∧(∀ y0 y1 y2 y3 y4 y5 y6 y7 y8 y9,LeO (impl_spread.l1 k y0 y1 y2 y3 y4 y5 y6 y7 y8 y9) (impl_spread.l1 (k + 1) y0 y1 y2 y3 y4 y5 y6 y7 y8 y9))
 | 0=>⟨fun _ _ _ _ _ _ r h=>by simp [impl_spread.l0] at h,fun _ _ _ _ _ _ _ _ _ _ r h=>by simp [impl_spread.l1] at h⟩
 | k + 1=>by
  obtain ⟨ih0,ih1⟩:=impl_spread.mono_l k
  refine ⟨?_,?_⟩
  ·intro y0 y1 y2 y3 y4 y5
   unfold impl_spread.l0
   repeat' first
   | (with_reducible exact ih0 _ _ _ _ _ _)
   | (with_reducible exact ih1 _ _ _ _ _ _ _ _ _ _)
   | (with_reducible exact LeO.refl _)
   | (with_reducible exact LeO.none _)
   | (with_reducible refine LeO.ite ?_ ?_)
   | (with_reducible refine LeO.bind ?_ (fun _=>?_))
   | exact ih0 _ _ _ _ _ _
   | exact ih1 _ _ _ _ _ _ _ _ _ _
   | exact LeO.none _
   | refine LeO.ite ?_ ?_
   | refine LeO.bind ?_ (fun _=>?_)
  ·intro y0 y1 y2 y3 y4 y5 y6 y7 y8 y9
   unfold impl_spread.l1
   repeat' first
   | (with_reducible exact ih0 _ _ _ _ _ _)
   | (with_reducible exact ih1 _ _ _ _ _ _ _ _ _ _)
   | (with_reducible exact LeO.refl _)
   | (with_reducible exact LeO.none _)
   | (with_reducible refine LeO.ite ?_ ?_)
   | (with_reducible refine LeO.bind ?_ (fun _=>?_))
   | exact ih0 _ _ _ _ _ _
   | exact ih1 _ _ _ _ _ _ _ _ _ _
   | exact LeO.none _
   | refine LeO.ite ?_ ?_
   | refine LeO.bind ?_ (fun _=>?_)
theorem impl_spread.mono:∀ a0 a1 a2 k,LeO (impl_spread.f k a0 a1 a2) (impl_spread.f (k + 1) a0 a1 a2):=by
 intro a0 a1 a2 k
 obtain ⟨ih0,ih1⟩:=impl_spread.mono_l k
 unfold impl_spread.f
 repeat' first
   | (with_reducible exact ih0 _ _ _ _ _ _)
   | (with_reducible exact ih1 _ _ _ _ _ _ _ _ _ _)
   | (with_reducible exact LeO.refl _)
   | (with_reducible exact LeO.none _)
   | (with_reducible refine LeO.ite ?_ ?_)
   | (with_reducible refine LeO.bind ?_ (fun _=>?_))
   | exact ih0 _ _ _ _ _ _
   | exact ih1 _ _ _ _ _ _ _ _ _ _
   | exact LeO.none _
   | refine LeO.ite ?_ ?_
   | refine LeO.bind ?_ (fun _=>?_)
set_option maxHeartbeats 8000000 in
set_option maxRecDepth 100000 in
theorem impl_spread.calls (k:Nat) (A0_0:Option Addr) (c0_0:Nat) (l0_0:List Int) (A0_1:Option Addr) (c0_1:Nat) (l0_1:List (List Int)) (A1:Option Addr) (c1:Nat) (l1:List Int) (r:List Int) (w:World) (hr0_0:Kd.C (Kd.int .i64) w A0_0 l0_0.length l0_0) (hc0_0:l0_0.length ≤ c0_0) (hr0_1:Kd.C (Kd.slice 3 (Kd.int .i64)) w A0_1 l0_1.length l0_1) (hc0_1:l0_1.length ≤ c0_1) (hr1:Kd.C (Kd.int .i64) w A1 l1.length l1) (hc1:l1.length ≤ c1) (h:impl_spread.f k l0_0 l0_1 l1 = some r) :
  Calls Try.prog 52 #[.agg #[.slice A0_0 l0_0.length c0_0,.slice A0_1 l0_1.length c0_1],.slice A1 l1.length c1] w fun e w'=>∃ v0_:Value,e = .returned (v0_)∧Kd.R (Kd.int .i64) 3 w' w.heap.size (fun _=>True) v0_ r∧Below w.heap.size w w':=by
 have hu28:=Try.underlying28
 have HR0_0:=Aside0.mk hr0_0
 have HC0_0:=Aside0.mk hc0_0
 clear hr0_0 hc0_0
 have HR0_1:=Aside0.mk hr0_1
 have HC0_1:=Aside0.mk hc0_1
 clear hr0_1 hc0_1
 have HR1:=Aside0.mk hr1
 have HC1:=Aside0.mk hc1
 clear hr1 hc1
 have HB:=Aside0.mk (Below.refl w.heap.size w)
 have H:(if 0 ≤ (l1.length:Int) then (if ((l1.length:Int):Int).toNat ≤ 35184372088832 then (impl_spread.l0 k (List.replicate ((l1.length:Int):Int).toNat 0) l1 (l1.length:Int) 0 l0_0 l0_1) else (none)) else (none)) = some r:=h
 clear h
 by_cases c3:0 ≤ (l1.length:Int)
 ·rw [if_pos c3] at H
  have c3b0:=eq_true c3
  have c3b1:decide (0 ≤ (l1.length:Int)) = true:=decide_eq_true c3
  clear c3
  by_cases c4:((l1.length:Int):Int).toNat ≤ 35184372088832
  ·rw [if_pos c4] at H
   have c4b0:=eq_true c4
   have c4b1:decide (((l1.length:Int):Int).toNat ≤ 35184372088832) = true:=decide_eq_true c4
   clear c4
   obtain ⟨y290,hy290⟩:∃ y_:List Int,y_ = (List.replicate ((l1.length:Int):Int).toNat 0):=⟨_,rfl⟩
   replace H:(impl_spread.l0 k y290 l1 (l1.length:Int) 0 l0_0 l0_1) = some r:=by rw [hy290];exact H
   have Ny290:=Aside0.mk hy290
   clear hy290
   have H':=Aside0.mk H
   clear H
   go_enter Try.func52,Try.ntmps52
   go_wp2_with (first | ((with_reducible refine gate_dst (N:=2) rfl ?_);refine box_event ?hg (N:=2) ?hd (cs:=#[.slice A0_0 l0_0.length c0_0,.slice A0_1 l0_1.length c0_1]) (t:=28) ?hr ?_;(case hd=>rfl);(case hg=>rfl);(case hr=>first | (go_simp;done) | (go_simp;rfl));intro gb289 hg w5 hbox hb;have n0_:=Aside0.mk (below_step (by exact HB.out) hb);have n1_:=Aside0.mk (hbox);have n2_:=Aside0.mk ((by rw [hg];exact (below_size (by exact HB.out)):w.heap.size ≤ gb289));have n3_:=Aside0.mk ((by rw [hg];exact (below_size (by exact HB.out)):w.heap.size ≤ gb289));clear HB;have HB:=n0_;have BK289:=n1_;have GW289:=n2_;have GE289:=n3_;clear n0_ n1_ n2_ n3_;clear hb hbox hg) | ((with_reducible refine gate_dst (N:=12) rfl ?_);refine Kd.R_make (Kd.int .i64) _ 3 rfl (N:=12) rfl 22 _ _ rfl (l1.length:Int) rfl rfl Try.underlying22 (.int .i64 0) 8 info3 rfl (by decide) (by omega) 0 (ok:=fun _=>True) (okp:=fun _=>True) rfl (fun _ hk=>hk) trivial (of_decide_eq_true (by assumption)) (Nat.le_trans (Nat.mul_le_mul_right _ (of_decide_eq_true (by assumption):(l1.length:Int).toNat ≤ 35184372088832)) (by omega)) (Below.refl _ _) (Nat.le_refl _) ?_;intro v291 w6 ho7 hb hg_ hnew_;clear hg_ hnew_;(first | rw [← Ny290.out] at ho7 | (simp only [Int.reduceToNat] at ho7;rw [← Ny290.out] at ho7));have n0_:=Aside0.mk (Kd.R_lower ho7 (below_size (by exact HB.out)));have n1_:=Aside0.mk (blk_below (g:=gb289) (o:=.cells #[.slice A0_0 l0_0.length c0_0,.slice A0_1 l0_1.length c0_1] 28 (0,0)) (by exact BK289.out) hb);have n2_:=Aside0.mk (below_step (by exact HB.out) hb);clear BK289;clear HB;have HO292:=n0_;have BK289:=n1_;have HB:=n2_;clear n0_ n1_ n2_;clear hb ho7))
   go_loopg [15] k (fun kq v15 w'=>∃ (x5_1:List Int) (x15_1:Int),v15 = .int .i64 x15_1∧Aside0 (impl_spread.l0 kq x5_1 l1 (l1.length:Int) x15_1 l0_0 l0_1 = some r)∧Aside0 (kq ≤ k)∧Aside0 (Kd.R (Kd.int .i64) 3 w' w.heap.size (fun _=>True) v291 x5_1)∧Aside0 (w'.heap[gb289]? = some (.cells #[(.slice A0_0 l0_0.length c0_0),(.slice A0_1 l0_1.length c0_1)] 28 (0,0)))∧Aside0 (Below w.heap.size w w'))
   case atStart=>exact ⟨(y290),(0),(by first | rfl | (simp;done) | (simp [*];done)),H',⟨Nat.le_refl _⟩,⟨by exact HO292.out⟩,⟨by exact BK289.out⟩,⟨by exact HB.out⟩⟩
   case round =>
    clear H'
    try clear c1
    try clear p2
    try clear c3
    try clear c3b0
    try clear c3b1
    try clear c4
    try clear c4b0
    try clear c4b1
    try clear c5
    obtain ⟨x5_1,x15_1,rfl,HA,HK1,HO_5,BK289,HB⟩:=hrel
    cases gk with
    | zero=>exact absurd HA.out (by simp [impl_spread.l0])
    | succ k1 =>
     have H:=HA.out
     clear HA
     simp only [impl_spread.l0] at H
     by_cases c8:x15_1 < (l1.length:Int)
     ·rw [if_pos c8] at H
      have c8b0:decide (x15_1 < (l1.length:Int)) = true:=decide_eq_true c8
      clear c8
      by_cases c9:0 ≤ x15_1
      ·rw [if_pos c9] at H
       have c9b0:decide (0 ≤ x15_1) = true:=decide_eq_true c9
       clear c9
       by_cases c10:x15_1 < (l1.length:Int)
       ·rw [if_pos c10] at H
        have c10b0:decide (x15_1 < (l1.length:Int)) = true:=decide_eq_true c10
        clear c10
        by_cases c11:x15_1 < (l0_1.length:Int)
        ·rw [if_pos c11] at H
         have c11b0:decide (x15_1 < (l0_1.length:Int)) = true:=decide_eq_true c11
         clear c11
         have H':=Aside0.mk H
         clear H
         have p293:0 ≤ (x15_1:Int):=of_decide_eq_true (by assumption)
         have q293:x15_1 < (l1.length:Int):=of_decide_eq_true (by assumption)
         obtain ⟨ad293,e293,hx293_0⟩:=Kd.at_int HR1.out x15_1 p293 q293
         cases e293
         replace hx293_0:=(HB.out.cell (World.block_lt_of_cell? w _ hx293_0)).trans hx293_0
         replace p293:=eq_true p293
         replace q293:=eq_true q293
         have hcz12_0:wr.cell? ⟨gb289,0,none⟩ = some (.slice A0_0 l0_0.length c0_0):=(blk_cell BK289.out 0).trans rfl
         have hcz12_1:wr.cell? ⟨gb289,1,none⟩ = some (.slice A0_1 l0_1.length c0_1):=(blk_cell BK289.out 1).trans rfl
         have hfz12_0:=blk_frozen BK289.out 0
         have hfz12_1:=blk_frozen BK289.out 1
         have p294:0 ≤ (x15_1:Int):=of_decide_eq_true (by assumption)
         have q294:x15_1 < (l0_1.length:Int):=of_decide_eq_true (by assumption)
         obtain ⟨ad294,A294_0,c294_0,e294,hx294_0,hl294_0,hi294_0⟩:=at_L1 HR0_1.out x15_1 p294 q294
         cases e294
         replace hx294_0:=(HB.out.cell (World.block_lt_of_cell? w _ hx294_0)).trans hx294_0
         have HR294_0:=Aside0.mk hi294_0
         have HC294_0:=Aside0.mk hl294_0
         clear hi294_0 hl294_0
         replace p294:=eq_true p294
         replace q294:=eq_true q294
         go_wp2
         go_loopg [26] k1 (fun kq v26 w'=>∃ (x5_2:List Int) (x26_2:Int),v26 = .int .i64 x26_2∧Aside0 (impl_spread.l1 kq x5_2 (rd l1 x15_1) l1 (l1.length:Int) x15_1 (rd_L1 l0_1 x15_1) ((rd_L1 l0_1 x15_1).length:Int) x26_2 l0_0 l0_1 = some r)∧Aside0 (kq ≤ k1)∧Aside0 (Kd.R (Kd.int .i64) 3 w' w.heap.size (fun _=>True) v291 x5_2)∧Aside0 (w'.heap[gb289]? = some (.cells #[(.slice A0_0 l0_0.length c0_0),(.slice (some ad294) l0_1.length c0_1)] 28 (0,0)))∧Aside0 (Below w.heap.size w w'))
         case atStart=>exact ⟨(x5_1),(0),(by first | rfl | (simp;done) | (simp [*];done)),H',⟨Nat.le_refl _⟩,⟨by exact HO_5.out⟩,⟨by exact BK289.out⟩,⟨by exact HB.out⟩⟩
         case round =>
          clear H'
          try clear c1
          try clear c2
          try clear p2
          try clear q2
          try clear hx2
          try clear c3
          try clear c3b0
          try clear c3b1
          try clear c4
          try clear c4b0
          try clear c4b1
          try clear c5
          try clear c8
          try clear c8b0
          try clear c9
          try clear c9b0
          try clear c10
          try clear c10b0
          try clear c11
          try clear c11b0
          try clear hcz12_0
          try clear hcz12_1
          try clear hfz12_0
          try clear hfz12_1
          try clear hx293_0
          try clear hx294_0
          try clear p2
          try clear p293
          try clear p294
          try clear q293
          try clear q294
          obtain ⟨x5_2,x26_2,rfl,HA,HK2,HO_5,BK289,HB⟩:=hrel
          cases gk with
          | zero=>exact absurd HA.out (by simp [impl_spread.l1])
          | succ k2 =>
           have H:=HA.out
           clear HA
           simp only [impl_spread.l1] at H
           by_cases c13:x26_2 < ((rd_L1 l0_1 x15_1).length:Int)
           ·rw [if_pos c13] at H
            have c13b0:decide (x26_2 < ((rd_L1 l0_1 x15_1).length:Int)) = true:=decide_eq_true c13
            clear c13
            by_cases c14:0 ≤ x26_2
            ·rw [if_pos c14] at H
             have c14b0:decide (0 ≤ x26_2) = true:=decide_eq_true c14
             clear c14
             by_cases c15:x26_2 < ((rd_L1 l0_1 x15_1).length:Int)
             ·rw [if_pos c15] at H
              have c15b0:decide (x26_2 < ((rd_L1 l0_1 x15_1).length:Int)) = true:=decide_eq_true c15
              clear c15
              by_cases c16:x26_2 < (x5_2.length:Int)
              ·rw [if_pos c16] at H
               have c16b0:decide (x26_2 < (x5_2.length:Int)) = true:=decide_eq_true c16
               clear c16
               obtain ⟨y297,hy297⟩:∃ y_:List Int,y_ = (x5_2.set (x26_2:Int).toNat (wrap64 ((rd x5_2 x26_2) + (wrap64 ((rd l1 x15_1) * (rd (rd_L1 l0_1 x15_1) x26_2)))))):=⟨_,rfl⟩
               replace H:(impl_spread.l1 k2 y297 (rd l1 x15_1) l1 (l1.length:Int) x15_1 (rd_L1 l0_1 x15_1) ((rd_L1 l0_1 x15_1).length:Int) (wrap64 (x26_2 + 1)) l0_0 l0_1) = some r:=by rw [hy297];exact H
               have Ny297:=Aside0.mk hy297
               clear hy297
               have H':=Aside0.mk H
               clear H
               have p295:0 ≤ (x26_2:Int):=of_decide_eq_true (by assumption)
               have q295:x26_2 < ((rd_L1 l0_1 x15_1).length:Int):=of_decide_eq_true (by assumption)
               obtain ⟨ad295,e295,hx295_0⟩:=Kd.at_int HR294_0.out x26_2 p295 q295
               cases e295
               replace hx295_0:=(HB.out.cell (World.block_lt_of_cell? w _ hx295_0)).trans hx295_0
               replace p295:=eq_true p295
               replace q295:=eq_true q295
               obtain ⟨Ao18,co18,eo18⟩:=Kd.R_slice HO_5.out
               subst eo18
               have p296:0 ≤ (x26_2:Int):=of_decide_eq_true (by assumption)
               have q296:x26_2 < (x5_2.length:Int):=of_decide_eq_true (by assumption)
               obtain ⟨ad296,e296,hx296_0⟩:=Kd.at_int (Kd.R_reads' HO_5.out).2.2 x26_2 p296 q296
               cases e296
               replace p296:=eq_true p296
               replace q296:=eq_true q296
               have p17:0 ≤ (x26_2:Int):=of_decide_eq_true (by assumption)
               have q17:(x26_2:Int) < ((x5_2.length:Int):Int):=of_decide_eq_true (by assumption)
               obtain ⟨go17,co17,eo17,gb17,gl17,cl17,HG17⟩:=Kd.R_form HO_5.out (by omega)
               (first | cases eo17 | (injection eo17 with ea_ en_ ec_;(first | subst ea_ | (injection ea_ with ea_;subst ea_));subst ec_;clear en_))
               have GB17:=Aside0.mk gb17
               have GG17:=Aside0.mk HG17
               clear gb17 gl17 HG17
               (first | simp only [add_plain] at hx296_0 | skip)
               obtain ⟨hx17_0,hf17_0⟩:=Kd.R_celln 0 HO_5.out (x26_2:Int) p17 q17
               replace p17:=eq_true p17
               replace q17:=eq_true q17
               have HP19:=Kd.R_putg HO_5.out (x26_2:Int) (wrap64 ((rd x5_2 x26_2) + (wrap64 ((rd l1 x15_1) * (rd (rd_L1 l0_1 x15_1) x26_2)))))
               go_wp2_with (first | ((with_reducible refine gate_store (t:=3) (p:=39) rfl ?_);refine store_event (t:=3) (p:=39) (v:=?vo_w20) (w1:=(wr.setCell ⟨go17,(x26_2:Int).toNat,none⟩ (.int .i64 (wrap64 ((rd x5_2 x26_2) + (wrap64 ((rd l1 x15_1) * (rd (rd_L1 l0_1 x15_1) x26_2)))))))) ?hg ?ho ?hn ?hr ?_;(case ho=>rfl);(case hg=>rfl);(case hn=>rfl);(case hr=>first | (go_simp;done) | (go_simp;rfl));intro w20 hw;have hg:wr.grownBy w20 (some go17):=(by rw [hw];exact HP19.2);have hp_:Kd.R (Kd.int .i64) 3 w20 w.heap.size (fun _=>True) (.slice (some ⟨go17,0,none⟩) x5_2.length co18) y297:=(by rw [hw,Ny297.out];exact HP19.1);clear HP19;have n0_:=Aside0.mk (hp_);have n1_:=Aside0.mk (blk_grown (g:=gb289) (o:=.cells #[.slice A0_0 l0_0.length c0_0,.slice (some ad294) l0_1.length c0_1] 28 (0,0)) (by exact BK289.out) hg (Kd.R_ne HO_5.out BK289.out (by decide)));have n2_:=Aside0.mk ((by rw [hw];exact below_set (HB.out) GB17.out:Below w.heap.size w w20));clear HO_5;clear BK289;clear HB;have HO_5:=n0_;have BK289:=n1_;have HB:=n2_;clear n0_ n1_ n2_;clear hg hw hp_))
               go_roundg k2
               case measure=>have:=HK1.out;have:=HK2.out;omega
               case rel=>exact ⟨(y297),(wrap64 (x26_2 + 1)),(by first | rfl | (simp;done) | (simp [*];done)),H',⟨by have:=HK1.out;have:=HK2.out;omega⟩,⟨by exact HO_5.out⟩,⟨by exact BK289.out⟩,⟨by exact HB.out⟩⟩
              ·rw [if_neg c16] at H
               exact absurd H (by simp)
             ·rw [if_neg c15] at H
              exact absurd H (by simp)
            ·rw [if_neg c14] at H
             exact absurd H (by simp)
           ·rw [if_neg c13] at H
            have c13b0:decide (x26_2 < ((rd_L1 l0_1 x15_1).length:Int)) = false:=decide_eq_false c13
            clear c13
            have H':=Aside0.mk H
            clear H
            go_wp2
            go_roundg k2
            case measure=>have:=HK1.out;have:=HK2.out;omega
            case rel=>exact ⟨(x5_2),(wrap64 (x15_1 + 1)),(by first | rfl | (simp;done) | (simp [*];done)),H',⟨by have:=HK1.out;have:=HK2.out;omega⟩,⟨by exact HO_5.out⟩,⟨by exact BK289.out⟩,⟨by exact HB.out⟩⟩
        ·rw [if_neg c11] at H
         exact absurd H (by simp)
       ·rw [if_neg c10] at H
        exact absurd H (by simp)
      ·rw [if_neg c9] at H
       exact absurd H (by simp)
     ·rw [if_neg c8] at H
      have c8b0:decide (x15_1 < (l1.length:Int)) = false:=decide_eq_false c8
      clear c8
      obtain rfl:=Option.some.inj H
      go_wp2
      go_ret
      exact ⟨_,rfl,by exact HO_5.out,by exact HB.out⟩
  ·rw [if_neg c4] at H
   exact absurd H (by simp)
 ·rw [if_neg c3] at H
  exact absurd H (by simp)
def spec_l18Asked.f (k:Nat) (l0_0:List Int) (l0_1:List (List Int)) (a1:Int) (a2:Int):Option (Bool):=(spec_ChancesOk.f k l0_0 l0_1).bind fun t307=>(if t307 = true then ((spec_l6In.f a1 0 (wrap64 ((l0_0.length:Int) - 1))).bind fun t308=>(if t308 = true then ((spec_l6In.f a2 0 12).bind fun t309=>(some t309)) else (some false))) else (some false))
theorem spec_l18Asked.mono:∀ a0 a1 a2 a3 k,LeO (spec_l18Asked.f k a0 a1 a2 a3) (spec_l18Asked.f (k + 1) a0 a1 a2 a3):=by
 intro a0 a1 a2 a3 k
 unfold spec_l18Asked.f
 repeat' first
   | (with_reducible exact spec_ChancesOk.mono _ _ _)
   | (with_reducible exact LeO.refl _)
   | (with_reducible exact LeO.none _)
   | (with_reducible refine LeO.ite ?_ ?_)
   | (with_reducible refine LeO.bind ?_ (fun _=>?_))
   | exact spec_ChancesOk.mono _ _ _
   | exact LeO.none _
   | refine LeO.ite ?_ ?_
   | refine LeO.bind ?_ (fun _=>?_)
set_option maxHeartbeats 8000000 in
set_option maxRecDepth 100000 in
theorem spec_l18Asked.calls (k:Nat) (A0_0:Option Addr) (c0_0:Nat) (l0_0:List Int) (A0_1:Option Addr) (c0_1:Nat) (l0_1:List (List Int)) (a1:Int) (a2:Int) (r:Bool) (w:World) (hr0_0:Kd.C (Kd.int .i64) w A0_0 l0_0.length l0_0) (hc0_0:l0_0.length ≤ c0_0) (hr0_1:Kd.C (Kd.slice 3 (Kd.int .i64)) w A0_1 l0_1.length l0_1) (hc0_1:l0_1.length ≤ c0_1) (h:spec_l18Asked.f k l0_0 l0_1 a1 a2 = some r) :
  Calls Try.prog 53 #[.agg #[.slice A0_0 l0_0.length c0_0,.slice A0_1 l0_1.length c0_1],.int .i64 a1,.int .i64 a2] w fun e w'=>e = .returned (.bool r)∧Below w.heap.size w w':=by
 have hu28:=Try.underlying28
 have HR0_0:=Aside0.mk hr0_0
 have HC0_0:=Aside0.mk hc0_0
 clear hr0_0 hc0_0
 have HR0_1:=Aside0.mk hr0_1
 have HC0_1:=Aside0.mk hc0_1
 clear hr0_1 hc0_1
 have HB:=Aside0.mk (Below.refl w.heap.size w)
 have H:((spec_ChancesOk.f k l0_0 l0_1).bind fun t307=>(if t307 = true then ((spec_l6In.f a1 0 (wrap64 ((l0_0.length:Int) - 1))).bind fun t308=>(if t308 = true then ((spec_l6In.f a2 0 12).bind fun t309=>(some t309)) else (some false))) else (some false))) = some r:=h
 clear h
 replace H:=Option.bind_eq_some_iff.mp H
 obtain ⟨t307,A40,H⟩:=H
 replace H:(if t307 = true then ((spec_l6In.f a1 0 (wrap64 ((l0_0.length:Int) - 1))).bind fun t308=>(if t308 = true then ((spec_l6In.f a2 0 12).bind fun t309=>(some t309)) else (some false))) else (some false)) = some r:=H
 have A4:=Aside0.mk A40
 clear A40
 by_cases c5:t307 = true
 ·subst c5
  have H1:((spec_l6In.f a1 0 (wrap64 ((l0_0.length:Int) - 1))).bind fun t308=>(if t308 = true then ((spec_l6In.f a2 0 12).bind fun t309=>(some t309)) else (some false))) = some r:=by rw [if_pos rfl] at H;exact H
  clear H
  have H:=H1
  clear H1
  replace H:=Option.bind_eq_some_iff.mp H
  obtain ⟨t308,A60,H⟩:=H
  replace H:(if t308 = true then ((spec_l6In.f a2 0 12).bind fun t309=>(some t309)) else (some false)) = some r:=H
  have A6:=Aside0.mk A60
  clear A60
  by_cases c7:t308 = true
  ·subst c7
   have H1:((spec_l6In.f a2 0 12).bind fun t309=>(some t309)) = some r:=by rw [if_pos rfl] at H;exact H
   clear H
   have H:=H1
   clear H1
   replace H:=Option.bind_eq_some_iff.mp H
   obtain ⟨t309,A80,H⟩:=H
   replace H:(some t309) = some r:=H
   have A8:=Aside0.mk A80
   clear A80
   obtain rfl:=Option.some.inj H
   go_enter Try.func53,Try.ntmps53
   go_wp2_with (first | ((with_reducible refine gate_dst (N:=3) rfl ?_);(try (refine gate_guard (by rfl) ?_;dsimp only));refine box_event ?hg (N:=3) ?hd (cs:=#[.slice A0_0 l0_0.length c0_0,.slice A0_1 l0_1.length c0_1]) (t:=28) ?hr ?_;(case hd=>rfl);(case hg=>rfl);(case hr=>first | (go_simp;done) | (go_simp;rfl));intro gb306 hg w9 hbox hb;have n0_:=Aside0.mk (below_step (by repeat (with_reducible first | exact HB.out | apply below_alloc | apply pw_below_drewN | apply below_drew1)) hb);have n1_:=Aside0.mk (hbox);have n2_:=Aside0.mk ((by rw [hg];exact (below_size (by repeat (with_reducible first | exact HB.out | apply below_alloc | apply pw_below_drewN | apply below_drew1))):w.heap.size ≤ gb306));have n3_:=Aside0.mk ((by rw [hg];exact (below_size (by repeat (with_reducible first | exact HB.out | apply below_alloc | apply pw_below_drewN | apply below_drew1))):w.heap.size ≤ gb306));clear HB;have HB:=n0_;have BK306:=n1_;have GW306:=n2_;have GE306:=n3_;clear n0_ n1_ n2_ n3_;clear hb hbox hg;have hcz10_0:w9.cell? ⟨gb306,0,none⟩ = some (.slice A0_0 l0_0.length c0_0):=(blk_cell BK306.out 0).trans rfl;have hcz10_1:w9.cell? ⟨gb306,1,none⟩ = some (.slice A0_1 l0_1.length c0_1):=(blk_cell BK306.out 1).trans rfl;have hfz10_0:=blk_frozen BK306.out 0;have hfz10_1:=blk_frozen BK306.out 1) | ((with_reducible refine gate_callee (f:=14) rfl ?_);refine goesL_ (some 8) rfl rfl Try.func14 (by kernel_rfl) rfl #[.agg #[.slice A0_0 l0_0.length c0_0,.slice A0_1 l0_1.length c0_1]] rfl (by (try simp only [List.map_toArray,List.map_cons,List.map_nil]);first | done | rfl | (simp only [List.length_drop,List.length_take];rfl)) ?_;(with_reducible refine (spec_ChancesOk.calls k _ _ l0_0 _ _ l0_1 true _ ?side1 ?side2 ?side3 ?side4 A4.out).mono ?_);(case side1=>repeat (first | exact (Kd.C_below HR0_0.out HB.out) | (with_reducible refine Kd.C_alloc ?_ _) | (with_reducible refine Kd.C_drewN ?_ _) | (with_reducible refine Kd.C_drew ?_)));(case side2=>exact HC0_0.out);(case side3=>repeat (first | exact (Kd.C_below HR0_1.out HB.out) | (with_reducible refine Kd.C_alloc ?_ _) | (with_reducible refine Kd.C_drewN ?_ _) | (with_reducible refine Kd.C_drew ?_)));(case side4=>exact HC0_1.out);rintro e w11 ⟨rfl,hb⟩;refine ⟨_,rfl,?_⟩;have n0_:=Aside0.mk (blk_below (g:=gb306) (o:=.cells #[.slice A0_0 l0_0.length c0_0,.slice A0_1 l0_1.length c0_1] 28 (0,0)) (by (with_reducible repeat (first | refine blk_drewN ?_ _ | refine blk_drew ?_ | refine blk_alloc ?_ _));exact BK306.out) hb);have n1_:=Aside0.mk (below_step (by repeat (with_reducible first | exact HB.out | apply below_alloc | apply pw_below_drewN | apply below_drew1 | refine below_set ?_ GE306.out)) hb);clear BK306;clear HB;have BK306:=n0_;have HB:=n1_;clear n0_ n1_;(try clear hb);(try clear hb2);(try clear hk);(try clear hi);have hcz12_0:w11.cell? ⟨gb306,0,none⟩ = some (.slice A0_0 l0_0.length c0_0):=(blk_cell BK306.out 0).trans rfl;have hcz12_1:w11.cell? ⟨gb306,1,none⟩ = some (.slice A0_1 l0_1.length c0_1):=(blk_cell BK306.out 1).trans rfl;have hfz12_0:=blk_frozen BK306.out 0;have hfz12_1:=blk_frozen BK306.out 1) | (go_at_call 40;(try simp only [i64_w,i32_w]);(with_reducible refine (spec_l6In.calls a1 0 (wrap64 ((l0_0.length:Int) - 1)) true _ A6.out).mono ?_);rintro e w' ⟨rfl,⟨nd,rfl⟩⟩) | (go_at_call 40;(with_reducible refine (spec_l6In.calls a2 0 12 t309 _ A8.out).mono ?_);rintro e w' ⟨rfl,⟨nd,rfl⟩⟩))
   go_ret
   exact ⟨by first | rfl | (simp [errW_none,errW_some] <;> rfl) | (simp [*,errW_none,errW_some] <;> rfl),by repeat (with_reducible first | exact HB.out | apply below_alloc | apply pw_below_drewN | apply below_drew1 | refine below_set ?_ GE306.out)⟩
  ·replace c7:=Bool.eq_false_iff.mpr c7
   subst c7
   have H1:(some false) = some r:=by rw [if_neg (show ¬ (false = true) by decide)] at H;exact H
   clear H
   have H:=H1
   clear H1
   obtain rfl:=Option.some.inj H
   go_enter Try.func53,Try.ntmps53
   go_wp2_with (first | ((with_reducible refine gate_dst (N:=3) rfl ?_);(try (refine gate_guard (by rfl) ?_;dsimp only));refine box_event ?hg (N:=3) ?hd (cs:=#[.slice A0_0 l0_0.length c0_0,.slice A0_1 l0_1.length c0_1]) (t:=28) ?hr ?_;(case hd=>rfl);(case hg=>rfl);(case hr=>first | (go_simp;done) | (go_simp;rfl));intro gb306 hg w13 hbox hb;have n0_:=Aside0.mk (below_step (by repeat (with_reducible first | exact HB.out | apply below_alloc | apply pw_below_drewN | apply below_drew1)) hb);have n1_:=Aside0.mk (hbox);have n2_:=Aside0.mk ((by rw [hg];exact (below_size (by repeat (with_reducible first | exact HB.out | apply below_alloc | apply pw_below_drewN | apply below_drew1))):w.heap.size ≤ gb306));have n3_:=Aside0.mk ((by rw [hg];exact (below_size (by repeat (with_reducible first | exact HB.out | apply below_alloc | apply pw_below_drewN | apply below_drew1))):w.heap.size ≤ gb306));clear HB;have HB:=n0_;have BK306:=n1_;have GW306:=n2_;have GE306:=n3_;clear n0_ n1_ n2_ n3_;clear hb hbox hg;have hcz14_0:w13.cell? ⟨gb306,0,none⟩ = some (.slice A0_0 l0_0.length c0_0):=(blk_cell BK306.out 0).trans rfl;have hcz14_1:w13.cell? ⟨gb306,1,none⟩ = some (.slice A0_1 l0_1.length c0_1):=(blk_cell BK306.out 1).trans rfl;have hfz14_0:=blk_frozen BK306.out 0;have hfz14_1:=blk_frozen BK306.out 1) | ((with_reducible refine gate_callee (f:=14) rfl ?_);refine goesL_ (some 8) rfl rfl Try.func14 (by kernel_rfl) rfl #[.agg #[.slice A0_0 l0_0.length c0_0,.slice A0_1 l0_1.length c0_1]] rfl (by (try simp only [List.map_toArray,List.map_cons,List.map_nil]);first | done | rfl | (simp only [List.length_drop,List.length_take];rfl)) ?_;(with_reducible refine (spec_ChancesOk.calls k _ _ l0_0 _ _ l0_1 true _ ?side1 ?side2 ?side3 ?side4 A4.out).mono ?_);(case side1=>repeat (first | exact (Kd.C_below HR0_0.out HB.out) | (with_reducible refine Kd.C_alloc ?_ _) | (with_reducible refine Kd.C_drewN ?_ _) | (with_reducible refine Kd.C_drew ?_)));(case side2=>exact HC0_0.out);(case side3=>repeat (first | exact (Kd.C_below HR0_1.out HB.out) | (with_reducible refine Kd.C_alloc ?_ _) | (with_reducible refine Kd.C_drewN ?_ _) | (with_reducible refine Kd.C_drew ?_)));(case side4=>exact HC0_1.out);rintro e w15 ⟨rfl,hb⟩;refine ⟨_,rfl,?_⟩;have n0_:=Aside0.mk (blk_below (g:=gb306) (o:=.cells #[.slice A0_0 l0_0.length c0_0,.slice A0_1 l0_1.length c0_1] 28 (0,0)) (by (with_reducible repeat (first | refine blk_drewN ?_ _ | refine blk_drew ?_ | refine blk_alloc ?_ _));exact BK306.out) hb);have n1_:=Aside0.mk (below_step (by repeat (with_reducible first | exact HB.out | apply below_alloc | apply pw_below_drewN | apply below_drew1 | refine below_set ?_ GE306.out)) hb);clear BK306;clear HB;have BK306:=n0_;have HB:=n1_;clear n0_ n1_;(try clear hb);(try clear hb2);(try clear hk);(try clear hi);have hcz16_0:w15.cell? ⟨gb306,0,none⟩ = some (.slice A0_0 l0_0.length c0_0):=(blk_cell BK306.out 0).trans rfl;have hcz16_1:w15.cell? ⟨gb306,1,none⟩ = some (.slice A0_1 l0_1.length c0_1):=(blk_cell BK306.out 1).trans rfl;have hfz16_0:=blk_frozen BK306.out 0;have hfz16_1:=blk_frozen BK306.out 1) | (go_at_call 40;(try simp only [i64_w,i32_w]);(with_reducible refine (spec_l6In.calls a1 0 (wrap64 ((l0_0.length:Int) - 1)) false _ A6.out).mono ?_);rintro e w' ⟨rfl,⟨nd,rfl⟩⟩))
   go_ret
   exact ⟨by first | rfl | (simp [errW_none,errW_some] <;> rfl) | (simp [*,errW_none,errW_some] <;> rfl),by repeat (with_reducible first | exact HB.out | apply below_alloc | apply pw_below_drewN | apply below_drew1 | refine below_set ?_ GE306.out)⟩
 ·replace c5:=Bool.eq_false_iff.mpr c5
  subst c5
  have H1:(some false) = some r:=by rw [if_neg (show ¬ (false = true) by decide)] at H;exact H
  clear H
  have H:=H1
  clear H1
  obtain rfl:=Option.some.inj H
  go_enter Try.func53,Try.ntmps53
  go_wp2_with (first | ((with_reducible refine gate_dst (N:=3) rfl ?_);(try (refine gate_guard (by rfl) ?_;dsimp only));refine box_event ?hg (N:=3) ?hd (cs:=#[.slice A0_0 l0_0.length c0_0,.slice A0_1 l0_1.length c0_1]) (t:=28) ?hr ?_;(case hd=>rfl);(case hg=>rfl);(case hr=>first | (go_simp;done) | (go_simp;rfl));intro gb306 hg w17 hbox hb;have n0_:=Aside0.mk (below_step (by repeat (with_reducible first | exact HB.out | apply below_alloc | apply pw_below_drewN | apply below_drew1)) hb);have n1_:=Aside0.mk (hbox);have n2_:=Aside0.mk ((by rw [hg];exact (below_size (by repeat (with_reducible first | exact HB.out | apply below_alloc | apply pw_below_drewN | apply below_drew1))):w.heap.size ≤ gb306));have n3_:=Aside0.mk ((by rw [hg];exact (below_size (by repeat (with_reducible first | exact HB.out | apply below_alloc | apply pw_below_drewN | apply below_drew1))):w.heap.size ≤ gb306));clear HB;have HB:=n0_;have BK306:=n1_;have GW306:=n2_;have GE306:=n3_;clear n0_ n1_ n2_ n3_;clear hb hbox hg;have hcz18_0:w17.cell? ⟨gb306,0,none⟩ = some (.slice A0_0 l0_0.length c0_0):=(blk_cell BK306.out 0).trans rfl;have hcz18_1:w17.cell? ⟨gb306,1,none⟩ = some (.slice A0_1 l0_1.length c0_1):=(blk_cell BK306.out 1).trans rfl;have hfz18_0:=blk_frozen BK306.out 0;have hfz18_1:=blk_frozen BK306.out 1) | ((with_reducible refine gate_callee (f:=14) rfl ?_);refine goesL_ (some 8) rfl rfl Try.func14 (by kernel_rfl) rfl #[.agg #[.slice A0_0 l0_0.length c0_0,.slice A0_1 l0_1.length c0_1]] rfl (by (try simp only [List.map_toArray,List.map_cons,List.map_nil]);first | done | rfl | (simp only [List.length_drop,List.length_take];rfl)) ?_;(with_reducible refine (spec_ChancesOk.calls k _ _ l0_0 _ _ l0_1 false _ ?side1 ?side2 ?side3 ?side4 A4.out).mono ?_);(case side1=>repeat (first | exact (Kd.C_below HR0_0.out HB.out) | (with_reducible refine Kd.C_alloc ?_ _) | (with_reducible refine Kd.C_drewN ?_ _) | (with_reducible refine Kd.C_drew ?_)));(case side2=>exact HC0_0.out);(case side3=>repeat (first | exact (Kd.C_below HR0_1.out HB.out) | (with_reducible refine Kd.C_alloc ?_ _) | (with_reducible refine Kd.C_drewN ?_ _) | (with_reducible refine Kd.C_drew ?_)));(case side4=>exact HC0_1.out);rintro e w19 ⟨rfl,hb⟩;refine ⟨_,rfl,?_⟩;have n0_:=Aside0.mk (blk_below (g:=gb306) (o:=.cells #[.slice A0_0 l0_0.length c0_0,.slice A0_1 l0_1.length c0_1] 28 (0,0)) (by (with_reducible repeat (first | refine blk_drewN ?_ _ | refine blk_drew ?_ | refine blk_alloc ?_ _));exact BK306.out) hb);have n1_:=Aside0.mk (below_step (by repeat (with_reducible first | exact HB.out | apply below_alloc | apply pw_below_drewN | apply below_drew1 | refine below_set ?_ GE306.out)) hb);clear BK306;clear HB;have BK306:=n0_;have HB:=n1_;clear n0_ n1_;(try clear hb);(try clear hb2);(try clear hk);(try clear hi)))
  go_ret
  exact ⟨rfl,by exact HB.out⟩
mutual
def spec_l18After.l0:Nat → Int → List Int → Int → List Int → List (List Int) → Option (List Int)
 | 0,_,_,_,_,_=>none
 | k + 1,x2,x7,x8,x311000,x311001=>if x8 < x2 then (if 0 ≤ (x7.length:Int) then (if ((x7.length:Int):Int).toNat ≤ 35184372088832 then (spec_l18After.l1 k x2 x7 x8 (List.replicate ((x7.length:Int):Int).toNat 0) 0 x311000 x311001) else (none)) else (none)) else (some x7)
def spec_l18After.l1:Nat → Int → List Int → Int → List Int → Int → List Int → List (List Int) → Option (List Int)
 | 0,_,_,_,_,_,_,_=>none
 | k + 1,x2,x7,x8,x9,x10,x311000,x311001=>if x10 < (x7.length:Int) then (spec_l18After.l2 k x2 x7 x8 x9 x10 0 x311000 x311001) else (spec_l18After.l0 k x2 x9 (wrap64 (x8 + 1)) x311000 x311001)
def spec_l18After.l2:Nat → Int → List Int → Int → List Int → Int → Int → List Int → List (List Int) → Option (List Int)
 | 0,_,_,_,_,_,_,_,_=>none
 | k + 1,x2,x7,x8,x9,x10,x11,x311000,x311001=>if x11 < (x7.length:Int) then (if 0 ≤ x11 then (if x11 < (x9.length:Int) then (if 0 ≤ x10 then (if x10 < (x7.length:Int) then (if x10 < (x311001.length:Int) then (if x11 < ((rd_L1 x311001 x10).length:Int) then (spec_l18After.l2 k x2 x7 x8 (x9.set (x11:Int).toNat (wrap64 ((rd x9 x11) + (wrap64 ((rd x7 x10) * (rd (rd_L1 x311001 x10) x11)))))) x10 (wrap64 (x11 + 1)) x311000 x311001) else (none)) else (none)) else (none)) else (none)) else (none)) else (none)) else (spec_l18After.l1 k x2 x7 x8 x9 (wrap64 (x10 + 1)) x311000 x311001)
end
def spec_l18After.f (k:Nat) (l0_0:List Int) (l0_1:List (List Int)) (a1:Int) (a2:Int):Option (List Int):=if 0 ≤ (l0_0.length:Int) then (if ((l0_0.length:Int):Int).toNat ≤ 35184372088832 then ((some (List.replicate ((l0_0.length:Int):Int).toNat 0:List Int)).bind fun y311=>(if 0 ≤ a1 then (if a1 < (y311.length:Int) then (spec_l18After.l0 k a2 (y311.set (a1:Int).toNat 1) 0 l0_0 l0_1) else (none)) else (none))) else (none)) else (none)
theorem spec_l18After.mono_l:∀ k,(∀ y0 y1 y2 y3 y4,LeO (spec_l18After.l0 k y0 y1 y2 y3 y4) (spec_l18After.l0 (k + 1) y0 y1 y2 y3 y4))∧(∀ y0 y1 y2 y3 y4 y5 y6,LeO (spec_l18After.l1 k y0 y1 y2 y3 y4 y5 y6) (spec_l18After.l1 (k + 1) y0 y1 y2 y3 y4 y5 y6))∧(∀ y0 y1 y2 y3 y4 y5 y6 y7,LeO (spec_l18After.l2 k y0 y1 y2 y3 y4 y5 y6 y7) (spec_l18After.l2 (k + 1) y0 y1 y2 y3 y4 y5 y6 y7))
 | 0=>⟨fun _ _ _ _ _ r h=>by simp [spec_l18After.l0] at h,fun _ _ _ _ _ _ _ r h=>by simp [spec_l18After.l1] at h,fun _ _ _ _ _ _ _ _ r h=>by simp [spec_l18After.l2] at h⟩
 | k + 1=>by
  obtain ⟨ih0,ih1,ih2⟩:=spec_l18After.mono_l k
  refine ⟨?_,?_,?_⟩
  ·intro y0 y1 y2 y3 y4
   unfold spec_l18After.l0
   repeat' first
   | (with_reducible exact ih0 _ _ _ _ _)
   | (with_reducible exact ih1 _ _ _ _ _ _ _)
   | (with_reducible exact ih2 _ _ _ _ _ _ _ _)
   | (with_reducible exact LeO.refl _)
   | (with_reducible exact LeO.none _)
   | (with_reducible refine LeO.ite ?_ ?_)
   | (with_reducible refine LeO.bind ?_ (fun _=>?_))
   | exact ih0 _ _ _ _ _
   | exact ih1 _ _ _ _ _ _ _
   | exact ih2 _ _ _ _ _ _ _ _
   | exact LeO.none _
   | refine LeO.ite ?_ ?_
   | refine LeO.bind ?_ (fun _=>?_)
  ·intro y0 y1 y2 y3 y4 y5 y6
   unfold spec_l18After.l1
   repeat' first
   | (with_reducible exact ih0 _ _ _ _ _)
   | (with_reducible exact ih1 _ _ _ _ _ _ _)
   | (with_reducible exact ih2 _ _ _ _ _ _ _ _)
   | (with_reducible exact LeO.refl _)
   | (with_reducible exact LeO.none _)
   | (with_reducible refine LeO.ite ?_ ?_)
   | (with_reducible refine LeO.bind ?_ (fun _=>?_))
   | exact ih0 _ _ _ _ _
   | exact ih1 _ _ _ _ _ _ _
   | exact ih2 _ _ _ _ _ _ _ _
   | exact LeO.none _
   | refine LeO.ite ?_ ?_
   | refine LeO.bind ?_ (fun _=>?_)
  ·intro y0 y1 y2 y3 y4 y5 y6 y7
   unfold spec_l18After.l2
   repeat' first
   | (with_reducible exact ih0 _ _ _ _ _)
   | (with_reducible exact ih1 _ _ _ _ _ _ _)
   | (with_reducible exact ih2 _ _ _ _ _ _ _ _)
   | (with_reducible exact LeO.refl _)
   | (with_reducible exact LeO.none _)
   | (with_reducible refine LeO.ite ?_ ?_)
   | (with_reducible refine LeO.bind ?_ (fun _=>?_))
   | exact ih0 _ _ _ _ _
   | exact ih1 _ _ _ _ _ _ _
   | exact ih2 _ _ _ _ _ _ _ _
   | exact LeO.none _
   | refine LeO.ite ?_ ?_
   | refine LeO.bind ?_ (fun _=>?_)
theorem spec_l18After.mono:∀ a0 a1 a2 a3 k,LeO (spec_l18After.f k a0 a1 a2 a3) (spec_l18After.f (k + 1) a0 a1 a2 a3):=by
 intro a0 a1 a2 a3 k
 obtain ⟨ih0,ih1,ih2⟩:=spec_l18After.mono_l k
 unfold spec_l18After.f
 repeat' first
   | (with_reducible exact ih0 _ _ _ _ _)
   | (with_reducible exact ih1 _ _ _ _ _ _ _)
   | (with_reducible exact ih2 _ _ _ _ _ _ _ _)
   | (with_reducible exact LeO.refl _)
   | (with_reducible exact LeO.none _)
   | (with_reducible refine LeO.ite ?_ ?_)
   | (with_reducible refine LeO.bind ?_ (fun _=>?_))
   | exact ih0 _ _ _ _ _
   | exact ih1 _ _ _ _ _ _ _
   | exact ih2 _ _ _ _ _ _ _ _
   | exact LeO.none _
   | refine LeO.ite ?_ ?_
   | refine LeO.bind ?_ (fun _=>?_)
def spec_l18After.T13:Bool × List (List Nat × List Nat):=(true,[([],[]),([],[]),([],[]),([],[]),([2,3],[2,3]),([4],[4]),([],[]),([],[]),([6,7],[6,7]),([8],[8]),([],[]),([10],[10]),([],[]),([11,12],[11,12]),([13],[13]),([],[]),([14,15],[14,15]),([16],[16]),([9,17],[9,17]),([5,18],[5,18]),([0,1,0,1,2,3,4,5,6,7,8,9,10,11,12,13,14,15,16,17,18,19],[0,1]),([20,19,0,1,2,3,4,5,6,7,8,9,10,11,12,13,14,15,16,17,18,19],[19,20])])
def spec_l18After.B13:List Nat:=[0,0,0,0,12,28,0,0,192,448,0,1024,0,7168,15360,0,64512,130048,262080,524284,1048575,2097151]
theorem spec_l18After.tab13:rtab .any (opsOf Try.f54 13) = spec_l18After.T13:=by kernel_rfl
theorem spec_l18After.bits13:waitsOk spec_l18After.T13.2 spec_l18After.B13 = true:=by kernel_rfl
set_option maxHeartbeats 8000000 in
set_option maxRecDepth 100000 in
theorem spec_l18After.calls (k:Nat) (A0_0:Option Addr) (c0_0:Nat) (l0_0:List Int) (A0_1:Option Addr) (c0_1:Nat) (l0_1:List (List Int)) (a1:Int) (a2:Int) (r:List Int) (w:World) (hr0_0:Kd.C (Kd.int .i64) w A0_0 l0_0.length l0_0) (hc0_0:l0_0.length ≤ c0_0) (hr0_1:Kd.C (Kd.slice 3 (Kd.int .i64)) w A0_1 l0_1.length l0_1) (hc0_1:l0_1.length ≤ c0_1) (h:spec_l18After.f k l0_0 l0_1 a1 a2 = some r) :
  Calls Try.prog 54 #[.agg #[.slice A0_0 l0_0.length c0_0,.slice A0_1 l0_1.length c0_1],.int .i64 a1,.int .i64 a2] w fun e w'=>∃ v0_:Value,e = .returned (v0_)∧Kd.R (Kd.int .i64) 3 w' w.heap.size (fun _=>True) v0_ r∧Below w.heap.size w w':=by
 have hu28:=Try.underlying28
 have HR0_0:=Aside0.mk hr0_0
 have HC0_0:=Aside0.mk hc0_0
 clear hr0_0 hc0_0
 have HR0_1:=Aside0.mk hr0_1
 have HC0_1:=Aside0.mk hc0_1
 clear hr0_1 hc0_1
 have HB:=Aside0.mk (Below.refl w.heap.size w)
 have H:(if 0 ≤ (l0_0.length:Int) then (if ((l0_0.length:Int):Int).toNat ≤ 35184372088832 then ((some (List.replicate ((l0_0.length:Int):Int).toNat 0:List Int)).bind fun y311=>(if 0 ≤ a1 then (if a1 < (y311.length:Int) then (spec_l18After.l0 k a2 (y311.set (a1:Int).toNat 1) 0 l0_0 l0_1) else (none)) else (none))) else (none)) else (none)) = some r:=h
 clear h
 by_cases c4:0 ≤ (l0_0.length:Int)
 ·rw [if_pos c4] at H
  have c4b0:=eq_true c4
  have c4b1:decide (0 ≤ (l0_0.length:Int)) = true:=decide_eq_true c4
  clear c4
  by_cases c5:((l0_0.length:Int):Int).toNat ≤ 35184372088832
  ·rw [if_pos c5] at H
   have c5b0:=eq_true c5
   have c5b1:decide (((l0_0.length:Int):Int).toNat ≤ 35184372088832) = true:=decide_eq_true c5
   clear c5
   obtain ⟨y311,hy311⟩:∃ y_:List Int,y_ = (List.replicate ((l0_0.length:Int):Int).toNat 0):=⟨_,rfl⟩
   replace H:(if 0 ≤ a1 then (if a1 < (y311.length:Int) then (spec_l18After.l0 k a2 (y311.set (a1:Int).toNat 1) 0 l0_0 l0_1) else (none)) else (none)) = some r:=by rw [hy311];exact H
   have Ny311:=Aside0.mk hy311
   clear hy311
   by_cases c6:0 ≤ a1
   ·rw [if_pos c6] at H
    have c6b0:decide (0 ≤ a1) = true:=decide_eq_true c6
    clear c6
    by_cases c7:a1 < (y311.length:Int)
    ·rw [if_pos c7] at H
     have c7b0:decide (a1 < (y311.length:Int)) = true:=decide_eq_true c7
     clear c7
     obtain ⟨y314,hy314⟩:∃ y_:List Int,y_ = (y311.set (a1:Int).toNat 1):=⟨_,rfl⟩
     replace H:(spec_l18After.l0 k a2 y314 0 l0_0 l0_1) = some r:=by rw [hy314];exact H
     have Ny314:=Aside0.mk hy314
     clear hy314
     have H':=Aside0.mk H
     clear H
     go_enter Try.func54,Try.ntmps54
     go_wp2_with (first | ((with_reducible refine gate_dst (N:=3) rfl ?_);refine box_event ?hg (N:=3) ?hd (cs:=#[.slice A0_0 l0_0.length c0_0,.slice A0_1 l0_1.length c0_1]) (t:=28) ?hr ?_;(case hd=>rfl);(case hg=>rfl);(case hr=>first | (go_simp;done) | (go_simp;rfl));intro gb310 hg w9 hbox hb;have n0_:=Aside0.mk (below_step (by exact HB.out) hb);have n1_:=Aside0.mk (hbox);have n2_:=Aside0.mk ((by rw [hg];exact (below_size (by exact HB.out)):w.heap.size ≤ gb310));have n3_:=Aside0.mk ((by rw [hg];exact (below_size (by exact HB.out)):w.heap.size ≤ gb310));clear HB;have HB:=n0_;have BK310:=n1_;have GW310:=n2_;have GE310:=n3_;clear n0_ n1_ n2_ n3_;clear hb hbox hg;have hcz10_0:w9.cell? ⟨gb310,0,none⟩ = some (.slice A0_0 l0_0.length c0_0):=(blk_cell BK310.out 0).trans rfl;have hcz10_1:w9.cell? ⟨gb310,1,none⟩ = some (.slice A0_1 l0_1.length c0_1):=(blk_cell BK310.out 1).trans rfl;have hfz10_0:=blk_frozen BK310.out 0;have hfz10_1:=blk_frozen BK310.out 1) | ((with_reducible refine gate_dst (N:=15) rfl ?_);refine Kd.R_make (Kd.int .i64) _ 3 rfl (N:=15) rfl 22 _ _ rfl (l0_0.length:Int) rfl rfl Try.underlying22 (.int .i64 0) 8 info3 rfl (by decide) (by omega) 0 (ok:=fun _=>True) (okp:=fun _=>True) rfl (fun _ hk=>hk) trivial (of_decide_eq_true (by assumption)) (Nat.le_trans (Nat.mul_le_mul_right _ (of_decide_eq_true (by assumption):(l0_0.length:Int).toNat ≤ 35184372088832)) (by omega)) (Below.refl _ _) (Nat.le_refl _) ?_;intro v312 w11 ho12 hb hg_ hnew_;clear hg_ hnew_;(first | rw [← Ny311.out] at ho12 | (simp only [Int.reduceToNat] at ho12;rw [← Ny311.out] at ho12));have n0_:=Aside0.mk (Kd.R_lower ho12 (below_size (by exact HB.out)));have n1_:=Aside0.mk (blk_below (g:=gb310) (o:=.cells #[.slice A0_0 l0_0.length c0_0,.slice A0_1 l0_1.length c0_1] 28 (0,0)) (by exact BK310.out) hb);have n2_:=Aside0.mk (below_step (by exact HB.out) hb);clear BK310;clear HB;have HO313:=n0_;have BK310:=n1_;have HB:=n2_;clear n0_ n1_ n2_;clear hb ho12;have p8:0 ≤ (a1:Int):=of_decide_eq_true (by assumption);have q8:(a1:Int) < ((y311.length:Int):Int):=of_decide_eq_true (by assumption);obtain ⟨go8,co8,eo8,gb8,gl8,cl8,HG8⟩:=Kd.R_form HO313.out (by omega);(first | cases eo8 | (injection eo8 with ea_ en_ ec_;(first | subst ea_ | (injection ea_ with ea_;subst ea_));subst ec_;clear en_));have GB8:=Aside0.mk gb8;have GG8:=Aside0.mk HG8;clear gb8 gl8 HG8;obtain ⟨hx8_0,hf8_0⟩:=Kd.R_celln 0 HO313.out (a1:Int) p8 q8;replace p8:=eq_true p8;replace q8:=eq_true q8;obtain ⟨hy13_,hz13_⟩:=Kd.R_celln 0 HO313.out (a1:Int) (of_decide_eq_true (by assumption)) (of_decide_eq_true (by assumption));have HP13:=Kd.R_putg HO313.out (a1:Int) 1) | ((with_reducible refine gate_store (t:=3) (p:=18) rfl ?_);refine store_event (t:=3) (p:=18) (v:=?vo_w14) (w1:=(w11.setCell ⟨go8,(a1:Int).toNat,none⟩ (.int .i64 1))) ?hg ?ho ?hn ?hr ?_;(case ho=>rfl);(case hg=>rfl);(case hn=>rfl);(case hr=>first | (go_simp;done) | (go_simp;rfl));intro w14 hw;have hg:w11.grownBy w14 (some go8):=(by rw [hw];exact HP13.2);have hp_:Kd.R (Kd.int .i64) 3 w14 w.heap.size (fun _=>True) (.slice (some ⟨go8,0,none⟩) y311.length co8) y314:=(by rw [hw,Ny314.out];exact HP13.1);clear HP13;have n0_:=Aside0.mk (blk_grown (g:=gb310) (o:=.cells #[.slice A0_0 l0_0.length c0_0,.slice A0_1 l0_1.length c0_1] 28 (0,0)) (by exact BK310.out) hg (Kd.R_ne HO313.out BK310.out (by decide)));have n1_:=Aside0.mk (hp_);have n2_:=Aside0.mk ((by rw [hw];exact below_set (HB.out) GB8.out:Below w.heap.size w w14));clear BK310;clear HO313;clear HB;have BK310:=n0_;have HO313:=n1_;have HB:=n2_;clear n0_ n1_ n2_;clear hg hw hp_))
     go_loopg [7,8] k (fun kq v7 v8 w'=>∃ (x7_1:List Int) (x8_1:Int),v8 = .int .i64 x8_1∧Aside0 (spec_l18After.l0 kq a2 x7_1 x8_1 l0_0 l0_1 = some r)∧Aside0 (kq ≤ k)∧Aside0 (Kd.R (Kd.int .i64) 3 w' w.heap.size (fun _=>True) v7 x7_1)∧Aside0 (w'.heap[gb310]? = some (.cells #[(.slice A0_0 l0_0.length c0_0),(.slice A0_1 l0_1.length c0_1)] 28 (0,0)))∧Aside0 (Below w.heap.size w w'))
     case atStart=>exact ⟨(y314),(0),(by first | rfl | (simp;done) | (simp [*];done)),H',⟨Nat.le_refl _⟩,⟨by exact HO313.out⟩,⟨by exact BK310.out⟩,⟨by exact HB.out⟩⟩
     case round =>
      clear H'
      try clear p2
      try clear c4
      try clear c4b0
      try clear c4b1
      try clear c5
      try clear c5b0
      try clear c5b1
      try clear c6
      try clear c6b0
      try clear c7
      try clear c7b0
      try clear p8
      try clear q8
      try clear hx8
      try clear hf8
      try clear hcz10_0
      try clear hcz10_1
      try clear hfz10_0
      try clear hfz10_1
      try clear hx8_0
      try clear p8
      try clear q8
      obtain ⟨x7_1,x8_1,rfl,HA,HK1,HO_7,BK310,HB⟩:=hrel
      cases gk with
      | zero=>exact absurd HA.out (by simp [spec_l18After.l0])
      | succ k1 =>
       have H:=HA.out
       clear HA
       simp only [spec_l18After.l0] at H
       by_cases c15:x8_1 < a2
       ·rw [if_pos c15] at H
        have c15b0:decide (x8_1 < a2) = true:=decide_eq_true c15
        clear c15
        by_cases c16:0 ≤ (x7_1.length:Int)
        ·rw [if_pos c16] at H
         have c16b0:=eq_true c16
         have c16b1:decide (0 ≤ (x7_1.length:Int)) = true:=decide_eq_true c16
         clear c16
         by_cases c17:((x7_1.length:Int):Int).toNat ≤ 35184372088832
         ·rw [if_pos c17] at H
          have c17b0:=eq_true c17
          have c17b1:decide (((x7_1.length:Int):Int).toNat ≤ 35184372088832) = true:=decide_eq_true c17
          clear c17
          obtain ⟨y315,hy315⟩:∃ y_:List Int,y_ = (List.replicate ((x7_1.length:Int):Int).toNat 0):=⟨_,rfl⟩
          replace H:(spec_l18After.l1 k1 a2 x7_1 x8_1 y315 0 l0_0 l0_1) = some r:=by rw [hy315];exact H
          have Ny315:=Aside0.mk hy315
          clear hy315
          have H':=Aside0.mk H
          clear H
          obtain ⟨Ao18,co18,eo18⟩:=Kd.R_slice HO_7.out
          subst eo18
          go_wp2_with (first | ((with_reducible refine gate_dst (N:=26) rfl ?_);refine Kd.R_make (Kd.int .i64) _ 3 rfl (N:=26) rfl 22 _ _ rfl (x7_1.length:Int) rfl rfl Try.underlying22 (.int .i64 0) 8 info3 rfl (by decide) (by omega) 0 (ok:=fun _=>True) (okp:=fun _=>True) rfl (fun _ hk=>hk) trivial (of_decide_eq_true (by assumption)) (Nat.le_trans (Nat.mul_le_mul_right _ (of_decide_eq_true (by assumption):(x7_1.length:Int).toNat ≤ 35184372088832)) (by omega)) (Below.refl _ _) (Nat.le_refl _) ?_;intro v316 w19 ho20 hb hg_ hnew_;clear hg_ hnew_;(first | rw [← Ny315.out] at ho20 | (simp only [Int.reduceToNat] at ho20;rw [← Ny315.out] at ho20));have n0_:=Aside0.mk (Kd.R_elder' (by exact HO_7.out) (Kd.R_base ho20) hb);have n1_:=Aside0.mk (Kd.R_lower (Kd.R_new' ho20 (Kd.R_lt (by exact HO_7.out))) (below_size (by exact HB.out)));have n2_:=Aside0.mk (blk_below (g:=gb310) (o:=.cells #[.slice A0_0 l0_0.length c0_0,.slice A0_1 l0_1.length c0_1] 28 (0,0)) (by exact BK310.out) hb);have n3_:=Aside0.mk (below_step (by exact HB.out) hb);clear HO_7;clear BK310;clear HB;have HO_7:=n0_;have HO317:=n1_;have BK310:=n2_;have HB:=n3_;clear n0_ n1_ n2_ n3_;clear hb ho20))
          go_loopg [10] k1 (fun kq v10 w'=>∃ (x9_2:List Int) (x10_2:Int),v10 = .int .i64 x10_2∧Aside0 (spec_l18After.l1 kq a2 x7_1 x8_1 x9_2 x10_2 l0_0 l0_1 = some r)∧Aside0 (kq ≤ k1)∧Aside0 (Kd.R (Kd.int .i64) 3 w' w.heap.size (fun k_=>some k_ ≠ (v316:Value).ownBlock) (.slice Ao18 x7_1.length co18) x7_1)∧Aside0 (Kd.R (Kd.int .i64) 3 w' w.heap.size (fun k_=>some k_ ≠ ((.slice Ao18 x7_1.length co18):Value).ownBlock) v316 x9_2)∧Aside0 (w'.heap[gb310]? = some (.cells #[(.slice A0_0 l0_0.length c0_0),(.slice A0_1 l0_1.length c0_1)] 28 (0,0)))∧Aside0 (Below w.heap.size w w'))
          case atStart=>exact ⟨(y315),(0),(by first | rfl | (simp;done) | (simp [*];done)),H',⟨Nat.le_refl _⟩,⟨by exact Kd.R_mono HO_7.out (fun _ hk=>hk.2)⟩,⟨by exact Kd.R_mono HO317.out (fun _ hk=>hk.2)⟩,⟨by exact BK310.out⟩,⟨by exact HB.out⟩⟩
          case round =>
           clear H'
           try clear c1
           try clear p2
           try clear c4
           try clear c4b0
           try clear c4b1
           try clear c5
           try clear c5b0
           try clear c5b1
           try clear c6
           try clear c6b0
           try clear c7
           try clear c7b0
           try clear p8
           try clear q8
           try clear hx8
           try clear hf8
           try clear c15
           try clear c15b0
           try clear c16
           try clear c16b0
           try clear c16b1
           try clear c17
           try clear c17b0
           try clear c17b1
           try clear hcz10_0
           try clear hcz10_1
           try clear hfz10_0
           try clear hfz10_1
           try clear hx8_0
           try clear p2
           try clear p8
           try clear q8
           obtain ⟨x9_2,x10_2,rfl,HA,HK2,HO_7,HO_9,BK310,HB⟩:=hrel
           cases gk with
           | zero=>exact absurd HA.out (by simp [spec_l18After.l1])
           | succ k2 =>
            have H:=HA.out
            clear HA
            simp only [spec_l18After.l1] at H
            by_cases c21:x10_2 < (x7_1.length:Int)
            ·rw [if_pos c21] at H
             have c21b0:decide (x10_2 < (x7_1.length:Int)) = true:=decide_eq_true c21
             clear c21
             have H':=Aside0.mk H
             clear H
             go_wp2
             go_loopg [11] k2 (fun kq v11 w'=>∃ (x9_3:List Int) (x11_3:Int),v11 = .int .i64 x11_3∧Aside0 (spec_l18After.l2 kq a2 x7_1 x8_1 x9_3 x10_2 x11_3 l0_0 l0_1 = some r)∧Aside0 (kq ≤ k2)∧Aside0 (Kd.R (Kd.int .i64) 3 w' w.heap.size (fun k_=>some k_ ≠ (v316:Value).ownBlock) (.slice Ao18 x7_1.length co18) x7_1)∧Aside0 (Kd.R (Kd.int .i64) 3 w' w.heap.size (fun k_=>some k_ ≠ ((.slice Ao18 x7_1.length co18):Value).ownBlock) v316 x9_3)∧Aside0 (w'.heap[gb310]? = some (.cells #[(.slice A0_0 l0_0.length c0_0),(.slice A0_1 l0_1.length c0_1)] 28 (0,0)))∧Aside0 (Below w.heap.size w w'))
             case atStart=>exact ⟨(x9_2),(0),(by first | rfl | (simp;done) | (simp [*];done)),H',⟨Nat.le_refl _⟩,⟨by exact HO_7.out⟩,⟨by exact HO_9.out⟩,⟨by exact BK310.out⟩,⟨by exact HB.out⟩⟩
             case round =>
              clear H'
              try clear c1
              try clear c2
              try clear p2
              try clear c4
              try clear c4b0
              try clear c4b1
              try clear c5
              try clear c5b0
              try clear c5b1
              try clear c6
              try clear c6b0
              try clear c7
              try clear c7b0
              try clear p8
              try clear q8
              try clear hx8
              try clear hf8
              try clear c15
              try clear c15b0
              try clear c16
              try clear c16b0
              try clear c16b1
              try clear c17
              try clear c17b0
              try clear c17b1
              try clear c21
              try clear c21b0
              try clear hcz10_0
              try clear hcz10_1
              try clear hfz10_0
              try clear hfz10_1
              try clear hx8_0
              try clear p2
              try clear p8
              try clear q8
              obtain ⟨x9_3,x11_3,rfl,HA,HK3,HO_7,HO_9,BK310,HB⟩:=hrel
              cases gk with
              | zero=>exact absurd HA.out (by simp [spec_l18After.l2])
              | succ k3 =>
               have H:=HA.out
               clear HA
               simp only [spec_l18After.l2] at H
               by_cases c22:x11_3 < (x7_1.length:Int)
               ·rw [if_pos c22] at H
                have c22b0:decide (x11_3 < (x7_1.length:Int)) = true:=decide_eq_true c22
                clear c22
                by_cases c23:0 ≤ x11_3
                ·rw [if_pos c23] at H
                 have c23b0:decide (0 ≤ x11_3) = true:=decide_eq_true c23
                 clear c23
                 by_cases c24:x11_3 < (x9_3.length:Int)
                 ·rw [if_pos c24] at H
                  have c24b0:decide (x11_3 < (x9_3.length:Int)) = true:=decide_eq_true c24
                  clear c24
                  by_cases c25:0 ≤ x10_2
                  ·rw [if_pos c25] at H
                   have c25b0:decide (0 ≤ x10_2) = true:=decide_eq_true c25
                   clear c25
                   by_cases c26:x10_2 < (x7_1.length:Int)
                   ·rw [if_pos c26] at H
                    have c26b0:decide (x10_2 < (x7_1.length:Int)) = true:=decide_eq_true c26
                    clear c26
                    by_cases c27:x10_2 < (l0_1.length:Int)
                    ·rw [if_pos c27] at H
                     have c27b0:decide (x10_2 < (l0_1.length:Int)) = true:=decide_eq_true c27
                     clear c27
                     by_cases c28:x11_3 < ((rd_L1 l0_1 x10_2).length:Int)
                     ·rw [if_pos c28] at H
                      have c28b0:decide (x11_3 < ((rd_L1 l0_1 x10_2).length:Int)) = true:=decide_eq_true c28
                      clear c28
                      obtain ⟨y322,hy322⟩:∃ y_:List Int,y_ = (x9_3.set (x11_3:Int).toNat (wrap64 ((rd x9_3 x11_3) + (wrap64 ((rd x7_1 x10_2) * (rd (rd_L1 l0_1 x10_2) x11_3)))))):=⟨_,rfl⟩
                      replace H:(spec_l18After.l2 k3 a2 x7_1 x8_1 y322 x10_2 (wrap64 (x11_3 + 1)) l0_0 l0_1) = some r:=by rw [hy322];exact H
                      have Ny322:=Aside0.mk hy322
                      clear hy322
                      have H':=Aside0.mk H
                      clear H
                      try go_wp2
                      have n0_:=Aside0.mk (Kd.R_drew HO_7.out)
                      have n1_:=Aside0.mk (Kd.R_drew HO_9.out)
                      have n2_:=Aside0.mk (blk_drew BK310.out)
                      have n3_:=Aside0.mk (below_drew1 HB.out)
                      clear HO_7
                      clear HO_9
                      clear BK310
                      clear HB
                      have HO_7:=n0_
                      have HO_9:=n1_
                      have BK310:=n2_
                      have HB:=n3_
                      clear n0_ n1_ n2_ n3_
                      obtain ⟨Ao31,co31,eo31⟩:=Kd.R_slice HO_9.out
                      (first | subst eo31 | (injection eo31 with f1_ f2_ f3_;have f4_:=f1_.symm;have f5_:=f3_.symm;clear f1_ f2_ f3_;subst f4_;subst f5_))
                      have p318:0 ≤ (x11_3:Int):=of_decide_eq_true (by assumption)
                      have q318:x11_3 < (x9_3.length:Int):=of_decide_eq_true (by assumption)
                      obtain ⟨ad318,e318,hx318_0⟩:=Kd.at_int (Kd.R_reads' HO_9.out).2.2 x11_3 p318 q318
                      cases e318
                      replace p318:=eq_true p318
                      replace q318:=eq_true q318
                      have p319:0 ≤ (x10_2:Int):=of_decide_eq_true (by assumption)
                      have q319:x10_2 < (x7_1.length:Int):=of_decide_eq_true (by assumption)
                      obtain ⟨ad319,e319,hx319_0⟩:=Kd.at_int (Kd.R_reads' HO_7.out).2.2 x10_2 p319 q319
                      cases e319
                      replace p319:=eq_true p319
                      replace q319:=eq_true q319
                      have p320:0 ≤ (x10_2:Int):=of_decide_eq_true (by assumption)
                      have q320:x10_2 < (l0_1.length:Int):=of_decide_eq_true (by assumption)
                      obtain ⟨ad320,A320_0,c320_0,e320,hx320_0,hl320_0,hi320_0⟩:=at_L1 HR0_1.out x10_2 p320 q320
                      have hw320_0:=hx320_0
                      cases e320
                      replace hx320_0:=(HB.out.cell (World.block_lt_of_cell? w _ hx320_0)).trans hx320_0
                      have HR320_0:=Aside0.mk hi320_0
                      have HC320_0:=Aside0.mk hl320_0
                      clear hi320_0 hl320_0
                      replace p320:=eq_true p320
                      replace q320:=eq_true q320
                      have p321:0 ≤ (x11_3:Int):=of_decide_eq_true (by assumption)
                      have q321:x11_3 < ((rd_L1 l0_1 x10_2).length:Int):=of_decide_eq_true (by assumption)
                      obtain ⟨ad321,e321,hx321_0⟩:=Kd.at_int HR320_0.out x11_3 p321 q321
                      have hw321_0:=hx321_0
                      cases e321
                      replace hx321_0:=(HB.out.cell (World.block_lt_of_cell? w _ hx321_0)).trans hx321_0
                      replace p321:=eq_true p321
                      replace q321:=eq_true q321
                      have p29:0 ≤ (x11_3:Int):=of_decide_eq_true (by assumption)
                      have q29:(x11_3:Int) < ((x9_3.length:Int):Int):=of_decide_eq_true (by assumption)
                      obtain ⟨go29,co29,eo29,gb29,gl29,cl29,HG29⟩:=Kd.R_form HO_9.out (by omega)
                      (first | cases eo29 | (injection eo29 with ea_ en_ ec_;(first | subst ea_ | (injection ea_ with ea_;subst ea_));subst ec_;clear en_))
                      have GB29:=Aside0.mk gb29
                      have GG29:=Aside0.mk HG29
                      clear gb29 gl29 HG29
                      (first | simp only [add_plain] at hx318_0 | skip)
                      obtain ⟨hx29_0,hf29_0⟩:=Kd.R_celln 0 HO_9.out (x11_3:Int) p29 q29
                      replace p29:=eq_true p29
                      replace q29:=eq_true q29
                      have HP32:=Kd.R_putn HO_9.out (x11_3:Int) (wrap64 ((rd x9_3 x11_3) + (wrap64 ((rd x7_1 x10_2) * (rd (rd_L1 l0_1 x10_2) x11_3)))))
                      rw [← Ny322.out] at HP32
                      have HQ32:=Aside0.mk HP32
                      clear HP32
                      refine start_ (n:=22) (S:=fun w'=>w'.cell? ⟨gb310,0,none⟩ = some (.slice A0_0 l0_0.length c0_0)∧w'.cell? ⟨gb310,1,none⟩ = some (.slice (some ad320) l0_1.length c0_1)∧w'.cell? ⟨go29,(x11_3).toNat,none⟩ = some (.int .i64 (rd x9_3 x11_3))∧w'.cell? (ad319.add (x10_2).toNat) = some (.int .i64 (rd x7_1 x10_2))∧w'.cell? (ad320.add (x10_2).toNat) = some (.slice (some ad321) (rd_L1 l0_1 x10_2).length c320_0)∧w'.cell? (ad321.add (x11_3).toNat) = some (.int .i64 (rd (rd_L1 l0_1 x10_2) x11_3))) (ds:=[21]) #[false,false,false,false,false,false,false,false,false,false,false,false,false,false,false,false,false,false,false,false,false,false] (by kernel_rfl) rfl rfl ⟨(blk_cell BK310.out 0).trans rfl,(blk_cell BK310.out 1).trans rfl,hx318_0,hx319_0,((HB.out.cell (World.block_lt_of_cell? w _ hw320_0)).trans hw320_0),((HB.out.cell (World.block_lt_of_cell? w _ hw321_0)).trans hw321_0)⟩ (fun hHeld=>?_);refine with_tabW spec_l18After.tab13 spec_l18After.bits13 (fun HT_ HW_=>?_)
                      generalize wr.drew = w30 at HO_7 HO_9 BK310 HB GG29 HQ32 HR320_0 hf29_0 hx29_0 hx318_0 hx319_0 hx320_0 hx321_0 hHeld ⊢
                      refine pure_ (i:=0) (N:=some 39) (v:=?_) (a':=?_) #[true,false,false,false,false,false,false,false,false,false,false,false,false,false,false,false,false,false,false,false,false,false] rfl rfl (any_of HT_.out (by kernel_rfl)) (fun _ _ _ h=>h) (Or.inl ⟨by rfl,?_⟩) ?_ ?_
                      rotate_left;·intro w';go_simp;with_reducible rfl
                      rotate_left;·simp only [Act.put,List.setIfInBounds_toArray,List.set_cons_zero,List.set_cons_succ,i64_w,i32_w];rfl
                      refine pure_ (i:=1) (N:=some 40) (v:=?_) (a':=?_) #[true,true,false,false,false,false,false,false,false,false,false,false,false,false,false,false,false,false,false,false,false,false] rfl rfl (any_of HT_.out (by kernel_rfl)) (fun _ _ _ h=>h) (Or.inl ⟨by rfl,?_⟩) ?_ ?_
                      rotate_left;·intro w';go_simp;with_reducible rfl
                      rotate_left;·simp only [Act.put,List.setIfInBounds_toArray,List.set_cons_zero,List.set_cons_succ,i64_w,i32_w];rfl
                      refine pure_ (i:=2) (N:=some 41) (v:=?_) (a':=?_) #[true,true,true,false,false,false,false,false,false,false,false,false,false,false,false,false,false,false,false,false,false,false] rfl rfl (any_of HT_.out (by kernel_rfl)) (fun _ _ _ h=>h) (Or.inl ⟨by rfl,?_⟩) ?_ ?_
                      rotate_left;·intro w';go_simp;with_reducible rfl
                      rotate_left;·simp only [Act.put,List.setIfInBounds_toArray,List.set_cons_zero,List.set_cons_succ,i64_w,i32_w];rfl
                      refine pure_ (i:=3) (N:=some 42) (v:=?_) (a':=?_) #[true,true,true,true,false,false,false,false,false,false,false,false,false,false,false,false,false,false,false,false,false,false] rfl rfl (any_of HT_.out (by kernel_rfl)) (fun _ _ _ h=>h) (Or.inl ⟨by rfl,?_⟩) ?_ ?_
                      rotate_left;·intro w';go_simp;with_reducible rfl
                      rotate_left;·simp only [Act.put,List.setIfInBounds_toArray,List.set_cons_zero,List.set_cons_succ,i64_w,i32_w];rfl
                      refine pure_ (i:=4) (N:=some 43) (v:=?_) (a':=?_) #[true,true,true,true,true,false,false,false,false,false,false,false,false,false,false,false,false,false,false,false,false,false] rfl rfl (any_of HT_.out (by kernel_rfl)) (fun _ _ _ h=>h) (Or.inl ⟨by rfl,?_⟩) ?_ ?_
                      rotate_left;·intro w';go_simp;with_reducible rfl
                      rotate_left;·simp only [Act.put,List.setIfInBounds_toArray,List.set_cons_zero,List.set_cons_succ,i64_w,i32_w];rfl
                      refine pure_ (i:=6) (N:=some 45) (v:=?_) (a':=?_) #[true,true,true,true,true,false,true,false,false,false,false,false,false,false,false,false,false,false,false,false,false,false] rfl rfl (any_of HT_.out (by kernel_rfl)) (fun _ _ _ h=>h) (Or.inl ⟨by rfl,?_⟩) ?_ ?_
                      rotate_left;·intro w';go_simp;with_reducible rfl
                      rotate_left;·simp only [Act.put,List.setIfInBounds_toArray,List.set_cons_zero,List.set_cons_succ,i64_w,i32_w];rfl
                      refine pure_ (i:=7) (N:=some 46) (v:=?_) (a':=?_) #[true,true,true,true,true,false,true,true,false,false,false,false,false,false,false,false,false,false,false,false,false,false] rfl rfl (any_of HT_.out (by kernel_rfl)) (fun _ _ _ h=>h) (Or.inl ⟨by rfl,?_⟩) ?_ ?_
                      rotate_left;·intro w';go_simp;with_reducible rfl
                      rotate_left;·simp only [Act.put,List.setIfInBounds_toArray,List.set_cons_zero,List.set_cons_succ,i64_w,i32_w];rfl
                      refine pure_ (i:=8) (N:=some 47) (v:=?_) (a':=?_) #[true,true,true,true,true,false,true,true,true,false,false,false,false,false,false,false,false,false,false,false,false,false] rfl rfl (any_of HT_.out (by kernel_rfl)) (fun _ _ _ h=>h) (Or.inl ⟨by rfl,?_⟩) ?_ ?_
                      rotate_left;·intro w';go_simp;with_reducible rfl
                      rotate_left;·simp only [Act.put,List.setIfInBounds_toArray,List.set_cons_zero,List.set_cons_succ,i64_w,i32_w];rfl
                      refine pure_ (i:=10) (N:=some 49) (v:=?_) (a':=?_) #[true,true,true,true,true,false,true,true,true,false,true,false,false,false,false,false,false,false,false,false,false,false] rfl rfl (any_of HT_.out (by kernel_rfl)) (fun _ _ _ h=>h) (Or.inl ⟨by rfl,?_⟩) ?_ ?_
                      rotate_left;·intro w';go_simp;with_reducible rfl
                      rotate_left;·simp only [Act.put,List.setIfInBounds_toArray,List.set_cons_zero,List.set_cons_succ,i64_w,i32_w];rfl
                      refine pure_ (i:=12) (N:=some 51) (v:=?_) (a':=?_) #[true,true,true,true,true,false,true,true,true,false,true,false,true,false,false,false,false,false,false,false,false,false] rfl rfl (any_of HT_.out (by kernel_rfl)) (fun _ _ _ h=>h) (Or.inl ⟨by rfl,?_⟩) ?_ ?_
                      rotate_left;·intro w';go_simp;with_reducible rfl
                      rotate_left;·simp only [Act.put,List.setIfInBounds_toArray,List.set_cons_zero,List.set_cons_succ,i64_w,i32_w];rfl
                      refine pure_ (i:=15) (N:=some 54) (v:=?_) (a':=?_) #[true,true,true,true,true,false,true,true,true,false,true,false,true,false,false,true,false,false,false,false,false,false] rfl rfl (any_of HT_.out (by kernel_rfl)) (fun _ _ _ h=>h) (Or.inl ⟨by rfl,?_⟩) ?_ ?_
                      rotate_left;·intro w';go_simp;with_reducible rfl
                      rotate_left;·simp only [Act.put,List.setIfInBounds_toArray,List.set_cons_zero,List.set_cons_succ,i64_w,i32_w];rfl
                      refine take_ (i:=5) (N:=some 44) (v:=?_) (a':=?_) #[true,true,true,true,true,true,true,true,true,false,true,false,true,false,false,true,false,false,false,false,false,false] rfl rfl (take_ofW HT_.out HW_.out (by kernel_rfl)) (fun _ _ _ h=>h) (Or.inl ⟨by rfl,?_⟩) hHeld ?_ ?_
                      rotate_left;·rintro w' ⟨s0,s1,s2,s3,s4,s5⟩;go_simp;with_reducible rfl
                      rotate_left;·simp only [Act.put,List.setIfInBounds_toArray,List.set_cons_zero,List.set_cons_succ,i64_w,i32_w];rfl
                      refine take_ (i:=9) (N:=some 48) (v:=?_) (a':=?_) #[true,true,true,true,true,true,true,true,true,true,true,false,true,false,false,true,false,false,false,false,false,false] rfl rfl (take_ofW HT_.out HW_.out (by kernel_rfl)) (fun _ _ _ h=>h) (Or.inl ⟨by rfl,?_⟩) hHeld ?_ ?_
                      rotate_left;·rintro w' ⟨s0,s1,s2,s3,s4,s5⟩;go_simp;with_reducible rfl
                      rotate_left;·simp only [Act.put,List.setIfInBounds_toArray,List.set_cons_zero,List.set_cons_succ,i64_w,i32_w];rfl
                      refine take_ (i:=11) (N:=some 50) (v:=?_) (a':=?_) #[true,true,true,true,true,true,true,true,true,true,true,true,true,false,false,true,false,false,false,false,false,false] rfl rfl (take_ofW HT_.out HW_.out (by kernel_rfl)) (fun _ _ _ h=>h) (Or.inl ⟨by rfl,?_⟩) hHeld ?_ ?_
                      rotate_left;·rintro w' ⟨s0,s1,s2,s3,s4,s5⟩;go_simp;with_reducible rfl
                      rotate_left;·simp only [Act.put,List.setIfInBounds_toArray,List.set_cons_zero,List.set_cons_succ,i64_w,i32_w];rfl
                      refine pure_ (i:=13) (N:=some 52) (v:=?_) (a':=?_) #[true,true,true,true,true,true,true,true,true,true,true,true,true,true,false,true,false,false,false,false,false,false] rfl rfl (any_of HT_.out (by kernel_rfl)) (fun _ _ _ h=>h) (Or.inl ⟨by rfl,?_⟩) ?_ ?_
                      rotate_left;·intro w';go_simp;with_reducible rfl
                      rotate_left;·simp only [Act.put,List.setIfInBounds_toArray,List.set_cons_zero,List.set_cons_succ,i64_w,i32_w];rfl
                      refine take_ (i:=14) (N:=some 53) (v:=?_) (a':=?_) #[true,true,true,true,true,true,true,true,true,true,true,true,true,true,true,true,false,false,false,false,false,false] rfl rfl (take_ofW HT_.out HW_.out (by kernel_rfl)) (fun _ _ _ h=>h) (Or.inl ⟨by rfl,?_⟩) hHeld ?_ ?_
                      rotate_left;·rintro w' ⟨s0,s1,s2,s3,s4,s5⟩;go_simp;with_reducible rfl
                      rotate_left;·simp only [Act.put,List.setIfInBounds_toArray,List.set_cons_zero,List.set_cons_succ,i64_w,i32_w];rfl
                      refine pure_ (i:=16) (N:=some 55) (v:=?_) (a':=?_) #[true,true,true,true,true,true,true,true,true,true,true,true,true,true,true,true,true,false,false,false,false,false] rfl rfl (any_of HT_.out (by kernel_rfl)) (fun _ _ _ h=>h) (Or.inl ⟨by rfl,?_⟩) ?_ ?_
                      rotate_left;·intro w';go_simp;with_reducible rfl
                      rotate_left;·simp only [Act.put,List.setIfInBounds_toArray,List.set_cons_zero,List.set_cons_succ,i64_w,i32_w];rfl
                      refine take_ (i:=17) (N:=some 56) (v:=?_) (a':=?_) #[true,true,true,true,true,true,true,true,true,true,true,true,true,true,true,true,true,true,false,false,false,false] rfl rfl (take_ofW HT_.out HW_.out (by kernel_rfl)) (fun _ _ _ h=>h) (Or.inl ⟨by rfl,?_⟩) hHeld ?_ ?_
                      rotate_left;·rintro w' ⟨s0,s1,s2,s3,s4,s5⟩;go_simp;with_reducible rfl
                      rotate_left;·simp only [Act.put,List.setIfInBounds_toArray,List.set_cons_zero,List.set_cons_succ,i64_w,i32_w];rfl
                      refine pure_ (i:=18) (N:=some 57) (v:=?_) (a':=?_) #[true,true,true,true,true,true,true,true,true,true,true,true,true,true,true,true,true,true,true,false,false,false] rfl rfl (any_of HT_.out (by kernel_rfl)) (fun _ _ _ h=>h) (Or.inl ⟨by rfl,?_⟩) ?_ ?_
                      rotate_left;·intro w';go_simp;with_reducible rfl
                      rotate_left;·simp only [Act.put,List.setIfInBounds_toArray,List.set_cons_zero,List.set_cons_succ,i64_w,i32_w];rfl
                      refine pure_ (i:=19) (N:=some 58) (v:=?_) (a':=?_) #[true,true,true,true,true,true,true,true,true,true,true,true,true,true,true,true,true,true,true,true,false,false] rfl rfl (any_of HT_.out (by kernel_rfl)) (fun _ _ _ h=>h) (Or.inl ⟨by rfl,?_⟩) ?_ ?_
                      rotate_left;·intro w';go_simp;with_reducible rfl
                      rotate_left;·simp only [Act.put,List.setIfInBounds_toArray,List.set_cons_zero,List.set_cons_succ,i64_w,i32_w];rfl
                      refine pure_ (i:=20) (N:=some 59) (v:=?_) (a':=?_) #[true,true,true,true,true,true,true,true,true,true,true,true,true,true,true,true,true,true,true,true,true,false] rfl rfl (any_of HT_.out (by kernel_rfl)) (fun _ _ _ h=>h) (Or.inl ⟨by rfl,?_⟩) ?_ ?_
                      rotate_left;·intro w';go_simp;with_reducible rfl
                      rotate_left;·simp only [Act.put,List.setIfInBounds_toArray,List.set_cons_zero,List.set_cons_succ,i64_w,i32_w];rfl
                      refine last_ (i:=21) (N:=none) #[true,true,true,true,true,true,true,true,true,true,true,true,true,true,true,true,true,true,true,true,true,true] rfl rfl (one_of HT_.out (by kernel_rfl)) (by decide) (fun K hK=>?_)
                      refine skip_ (w1:=?_) (by rfl) rfl ?_ ?_
                      rotate_left
                      ·go_simp
                       rfl
                      refine hK.out _ _ ?_
                      clear hK K
                      refine done_ (done_of HT_.out (by kernel_rfl)) ?_
                      try go_wp2
                      go_roundg k3
                      case measure=>have:=HK1.out;have:=HK2.out;have:=HK3.out;omega
                      case rel=>exact ⟨(y322),(wrap64 (x11_3 + 1)),(by first | rfl | (simp;done) | (simp [*];done)),H',⟨by have:=HK1.out;have:=HK2.out;have:=HK3.out;omega⟩,⟨by (with_reducible repeat (first | apply Kd.R_alloc | apply Kd.R_drewN | apply Kd.R_drew));exact Kd.R_mono (Kd.R_far (p:=⟨go29,(x11_3:Int).toNat,none⟩) (Kd.R_mono HO_7.out (fun k_ hk=>(⟨hk,fun e_=>hk (by rw [e_];rfl)⟩:_∧k_ ≠ go29))) (fun _ hk=>hk.2) (.int .i64 (wrap64 ((rd x9_3 x11_3) + (wrap64 ((rd x7_1 x10_2) * (rd (rd_L1 l0_1 x10_2) x11_3))))))) (fun _ hk=>hk.1)⟩,⟨by (with_reducible repeat (first | apply Kd.R_alloc | apply Kd.R_drewN | apply Kd.R_drew));exact HQ32.out⟩,⟨by (with_reducible repeat (first | refine blk_drewN ?_ _ | refine blk_drew ?_ | refine blk_alloc ?_ _));refine blk_far ?_ (by have h_:=Kd.R_ne HO_9.out BK310.out (by decide);intro e_;exact h_ (by rw [e_];rfl)) _;(with_reducible repeat (first | refine blk_drewN ?_ _ | refine blk_drew ?_ | refine blk_alloc ?_ _));exact BK310.out⟩,⟨by repeat (with_reducible first | exact HB.out | apply below_alloc | apply pw_below_drewN | apply below_drew1 | refine below_set ?_ GB29.out | refine below_set ?_ GE310.out)⟩⟩
                     ·rw [if_neg c28] at H
                      exact absurd H (by simp)
                    ·rw [if_neg c27] at H
                     exact absurd H (by simp)
                   ·rw [if_neg c26] at H
                    exact absurd H (by simp)
                  ·rw [if_neg c25] at H
                   exact absurd H (by simp)
                 ·rw [if_neg c24] at H
                  exact absurd H (by simp)
                ·rw [if_neg c23] at H
                 exact absurd H (by simp)
               ·rw [if_neg c22] at H
                have c22b0:decide (x11_3 < (x7_1.length:Int)) = false:=decide_eq_false c22
                clear c22
                have H':=Aside0.mk H
                clear H
                go_wp2
                go_roundg k3
                case measure=>have:=HK1.out;have:=HK2.out;have:=HK3.out;omega
                case rel=>exact ⟨(x9_3),(wrap64 (x10_2 + 1)),(by first | rfl | (simp;done) | (simp [*];done)),H',⟨by have:=HK1.out;have:=HK2.out;have:=HK3.out;omega⟩,⟨by exact HO_7.out⟩,⟨by exact HO_9.out⟩,⟨by exact BK310.out⟩,⟨by exact HB.out⟩⟩
            ·rw [if_neg c21] at H
             have c21b0:decide (x10_2 < (x7_1.length:Int)) = false:=decide_eq_false c21
             clear c21
             have H':=Aside0.mk H
             clear H
             go_wp2
             go_roundg k2
             case measure=>have:=HK1.out;have:=HK2.out;omega
             case rel=>exact ⟨(x9_2),(wrap64 (x8_1 + 1)),(by first | rfl | (simp;done) | (simp [*];done)),H',⟨by have:=HK1.out;have:=HK2.out;omega⟩,⟨by exact Kd.R_mono HO_9.out (fun _ hk=>trivial)⟩,⟨by exact BK310.out⟩,⟨by exact HB.out⟩⟩
         ·rw [if_neg c17] at H
          exact absurd H (by simp)
        ·rw [if_neg c16] at H
         exact absurd H (by simp)
       ·rw [if_neg c15] at H
        have c15b0:decide (x8_1 < a2) = false:=decide_eq_false c15
        clear c15
        obtain rfl:=Option.some.inj H
        go_wp2
        go_ret
        exact ⟨_,rfl,by exact HO_7.out,by exact HB.out⟩
    ·rw [if_neg c7] at H
     exact absurd H (by simp)
   ·rw [if_neg c6] at H
    exact absurd H (by simp)
  ·rw [if_neg c5] at H
   exact absurd H (by simp)
 ·rw [if_neg c4] at H
  exact absurd H (by simp)
def laws_mnInts.l0:Nat → List Int → List Int → Int → Option (Bool)
 | 0,_,_,_=>none
 | k + 1,x0,x1,x5=>if x5 < (x0.length:Int) then (if 0 ≤ x5 then (if x5 < (x1.length:Int) then (if (rd x0 x5) = (rd x1 x5) then (laws_mnInts.l0 k x0 x1 (wrap64 (x5 + 1))) else (some false)) else (none)) else (none)) else (some true)
def laws_mnInts.f (k:Nat) (l0:List Int) (l1:List Int):Option (Bool):=if (l0.length:Int) = (l1.length:Int) then (laws_mnInts.l0 k l0 l1 0) else (some false)
theorem laws_mnInts.mono_l:∀ k,(∀ y0 y1 y2,LeO (laws_mnInts.l0 k y0 y1 y2) (laws_mnInts.l0 (k + 1) y0 y1 y2))
 | 0=>fun _ _ _ r h=>by simp [laws_mnInts.l0] at h
 | k + 1=>by
  have ih0:=laws_mnInts.mono_l k
  ·intro y0 y1 y2
   unfold laws_mnInts.l0
   repeat' first
   | (with_reducible exact ih0 _ _ _)
   | (with_reducible exact LeO.refl _)
   | (with_reducible exact LeO.none _)
   | (with_reducible refine LeO.ite ?_ ?_)
   | (with_reducible refine LeO.bind ?_ (fun _=>?_))
   | exact ih0 _ _ _
   | exact LeO.none _
   | refine LeO.ite ?_ ?_
   | refine LeO.bind ?_ (fun _=>?_)
theorem laws_mnInts.mono:∀ a0 a1 k,LeO (laws_mnInts.f k a0 a1) (laws_mnInts.f (k + 1) a0 a1):=by
 intro a0 a1 k
 have ih0:=laws_mnInts.mono_l k
 unfold laws_mnInts.f
 repeat' first
   | (with_reducible exact ih0 _ _ _)
   | (with_reducible exact LeO.refl _)
   | (with_reducible exact LeO.none _)
   | (with_reducible refine LeO.ite ?_ ?_)
   | (with_reducible refine LeO.bind ?_ (fun _=>?_))
   | exact ih0 _ _ _
   | exact LeO.none _
   | refine LeO.ite ?_ ?_
   | refine LeO.bind ?_ (fun _=>?_)
set_option maxHeartbeats 8000000 in
set_option maxRecDepth 100000 in
theorem laws_mnInts.calls (k:Nat) (A0:Option Addr) (c0:Nat) (l0:List Int) (A1:Option Addr) (c1:Nat) (l1:List Int) (r:Bool) (w:World) (hr0:Kd.C (Kd.int .i64) w A0 l0.length l0) (hc0:l0.length ≤ c0) (hr1:Kd.C (Kd.int .i64) w A1 l1.length l1) (hc1:l1.length ≤ c1) (h:laws_mnInts.f k l0 l1 = some r) :
  Calls Try.prog 24 #[.slice A0 l0.length c0,.slice A1 l1.length c1] w fun e w'=>e = .returned (.bool r)∧Drawn0 w w':=by
 have HR0:=Aside0.mk hr0
 have HC0:=Aside0.mk hc0
 clear hr0 hc0
 have HR1:=Aside0.mk hr1
 have HC1:=Aside0.mk hc1
 clear hr1 hc1
 have H:(if (l0.length:Int) = (l1.length:Int) then (laws_mnInts.l0 k l0 l1 0) else (some false)) = some r:=h
 clear h
 by_cases c3:(l0.length:Int) = (l1.length:Int)
 ·rw [if_pos c3] at H
  have c3b0:((l0.length:Int) == (l1.length:Int)) = true:=beq_iff_eq.mpr c3
  have c3b1:((l0.length:Int) != (l1.length:Int)) = false:=bne_eq_false_iff_eq.mpr c3
  have c3b2:(l0.length == l1.length) = true:=by first | simpa using c3 | (simp at c3 ⊢;omega)
  clear c3
  have H':=Aside0.mk H
  clear H
  go_enter Try.func24,Try.ntmps24
  go_wp2
  repeat (go_quiet (fail);try go_wp2)
  go_loopg [5] k (fun kq v5 w'=>∃ (x5_1:Int),v5 = .int .i64 x5_1∧Aside0 (laws_mnInts.l0 kq l0 l1 x5_1 = some r)∧Aside0 (kq ≤ k)∧Drawn0 w w')
  case atStart=>exact ⟨(0),(by first | rfl | (simp;done) | (simp [*];done)),H',⟨Nat.le_refl _⟩,by repeat (first | exact Drawn0.refl _ | apply Drawn0.step)⟩
  case round =>
   clear H'
   try clear c1
   try clear c2
   try clear p2
   try clear c3
   try clear c3b0
   try clear c3b1
   try clear c3b2
   obtain ⟨x5_1,rfl,HA,HK1,⟨m1,rfl⟩⟩:=hrel
   cases gk with
   | zero=>exact absurd HA.out (by simp [laws_mnInts.l0])
   | succ k1 =>
    have H:=HA.out
    clear HA
    simp only [laws_mnInts.l0] at H
    by_cases c4:x5_1 < (l0.length:Int)
    ·rw [if_pos c4] at H
     have c4b0:decide (x5_1 < (l0.length:Int)) = true:=decide_eq_true c4
     clear c4
     by_cases c5:0 ≤ x5_1
     ·rw [if_pos c5] at H
      have c5b0:decide (0 ≤ x5_1) = true:=decide_eq_true c5
      clear c5
      by_cases c6:x5_1 < (l1.length:Int)
      ·rw [if_pos c6] at H
       have c6b0:decide (x5_1 < (l1.length:Int)) = true:=decide_eq_true c6
       clear c6
       by_cases c7:(rd l0 x5_1) = (rd l1 x5_1)
       ·rw [if_pos c7] at H
        have c7b0:((rd l0 x5_1) == (rd l1 x5_1)) = true:=beq_iff_eq.mpr c7
        have c7b1:((rd l0 x5_1) != (rd l1 x5_1)) = false:=bne_eq_false_iff_eq.mpr c7
        clear c7
        have H':=Aside0.mk H
        clear H
        have p328:0 ≤ (x5_1:Int):=of_decide_eq_true (by assumption)
        have q328:x5_1 < (l0.length:Int):=of_decide_eq_true (by assumption)
        obtain ⟨ad328,e328,hx328_0⟩:=Kd.at_int HR0.out x5_1 p328 q328
        cases e328
        replace p328:=eq_true p328
        replace q328:=eq_true q328
        have p329:0 ≤ (x5_1:Int):=of_decide_eq_true (by assumption)
        have q329:x5_1 < (l1.length:Int):=of_decide_eq_true (by assumption)
        obtain ⟨ad329,e329,hx329_0⟩:=Kd.at_int HR1.out x5_1 p329 q329
        cases e329
        replace p329:=eq_true p329
        replace q329:=eq_true q329
        go_wp2
        repeat (go_quiet (fail);try go_wp2)
        go_roundg k1
        case measure=>have:=HK1.out;omega
        case rel=>exact ⟨(wrap64 (x5_1 + 1)),(by first | rfl | (simp;done) | (simp [*];done)),H',⟨by have:=HK1.out;omega⟩,by repeat (first | exact Drawn0.refl _ | apply Drawn0.step)⟩
       ·rw [if_neg c7] at H
        have c7b0:((rd l0 x5_1) == (rd l1 x5_1)) = false:=beq_eq_false_iff_ne.mpr c7
        have c7b1:((rd l0 x5_1) != (rd l1 x5_1)) = true:=bne_iff_ne.mpr c7
        obtain rfl:=Option.some.inj H
        have p328:0 ≤ (x5_1:Int):=of_decide_eq_true (by assumption)
        have q328:x5_1 < (l0.length:Int):=of_decide_eq_true (by assumption)
        obtain ⟨ad328,e328,hx328_0⟩:=Kd.at_int HR0.out x5_1 p328 q328
        cases e328
        replace p328:=eq_true p328
        replace q328:=eq_true q328
        have p329:0 ≤ (x5_1:Int):=of_decide_eq_true (by assumption)
        have q329:x5_1 < (l1.length:Int):=of_decide_eq_true (by assumption)
        obtain ⟨ad329,e329,hx329_0⟩:=Kd.at_int HR1.out x5_1 p329 q329
        cases e329
        replace p329:=eq_true p329
        replace q329:=eq_true q329
        go_wp2
        repeat (go_quiet (fail);try go_wp2)
        go_ret
        exact ⟨by first | rfl | (simp;done) | (simp [*];done),by repeat (first | exact Drawn0.refl _ | apply Drawn0.step)⟩
      ·rw [if_neg c6] at H
       exact absurd H (by simp)
     ·rw [if_neg c5] at H
      exact absurd H (by simp)
    ·rw [if_neg c4] at H
     have c4b0:decide (x5_1 < (l0.length:Int)) = false:=decide_eq_false c4
     clear c4
     obtain rfl:=Option.some.inj H
     go_wp2
     repeat (go_quiet (fail);try go_wp2)
     go_ret
     exact ⟨by first | rfl | (simp;done) | (simp [*];done),by repeat (first | exact Drawn0.refl _ | apply Drawn0.step)⟩
 ·rw [if_neg c3] at H
  have c3b0:((l0.length:Int) == (l1.length:Int)) = false:=beq_eq_false_iff_ne.mpr c3
  have c3b1:((l0.length:Int) != (l1.length:Int)) = true:=bne_iff_ne.mpr c3
  have c3b2:(l0.length == l1.length) = false:=by first | simpa using c3 | (simp at c3 ⊢;omega)
  obtain rfl:=Option.some.inj H
  go_enter Try.func24,Try.ntmps24
  go_wp2
  repeat (go_quiet (fail);try go_wp2)
  go_ret
  exact ⟨by first | rfl | (simp;done) | (simp [*];done),by repeat (first | exact Drawn0.refl _ | apply Drawn0.step)⟩
def spec_l92Steps.f (k:Nat) (s0_0:List Int) (s0_1:Int):Option (Int × Int):=(spec_l6Rd_pick.f k s0_0 s0_1 20).bind fun bt256=>(if bt256.1 = 0 then ((some (([(-1),12,13]:List Int):List Int)).bind fun y258=>((spec_l6Rd_pick.f k s0_0 bt256.2 3).bind fun bt261=>(if 0 ≤ bt261.1 then (if bt261.1 < (y258.length:Int) then (some (rd y258 bt261.1,bt261.2)) else (none)) else (none)))) else ((spec_l6Rd_pick.f k s0_0 bt256.2 6).bind fun bt264=>(some (bt264.1,bt264.2))))
theorem spec_l92Steps.mono:∀ a0 a1 k,LeO (spec_l92Steps.f k a0 a1) (spec_l92Steps.f (k + 1) a0 a1):=by
 intro a0 a1 k
 unfold spec_l92Steps.f
 repeat' first
   | (with_reducible exact spec_l6Rd_pick.mono _ _ _ _)
   | (with_reducible exact LeO.refl _)
   | (with_reducible exact LeO.none _)
   | (with_reducible refine LeO.ite ?_ ?_)
   | (with_reducible refine LeO.bind ?_ (fun _=>?_))
   | exact spec_l6Rd_pick.mono _ _ _ _
   | exact LeO.none _
   | refine LeO.ite ?_ ?_
   | refine LeO.bind ?_ (fun _=>?_)
set_option maxHeartbeats 8000000 in
set_option maxRecDepth 100000 in
theorem spec_l92Steps.calls (k:Nat) (g:Nat) (s0_0:List Int) (s0_1:Int) (r1:Int) (r2:Int) (w0 w:World) (hI:IsS67 w0 w g s0_0 s0_1) (hB:Below w0.heap.size w0 w) (h:spec_l92Steps.f k s0_0 s0_1 = some (r1,r2)) :
  Calls Try.prog 49 #[.pointer (some ⟨g,0,none⟩)] w fun e w'=>e = .returned (.int .i64 r1)∧IsS67 w0 w' g s0_0 r2∧Below w0.heap.size w0 w'∧KeepBut w w' g none:=by
 have HI0:=Aside0.mk hI
 have HK:=Aside0.mk (KeepBut.refl w g none)
 have HL:=Aside0.mk hB.size
 clear hI
 have HW0:=Aside0.mk hB.size
 have HB:=Aside0.mk hB
 clear hB
 have H:((spec_l6Rd_pick.f k s0_0 s0_1 20).bind fun bt256=>(if bt256.1 = 0 then ((some (([(-1),12,13]:List Int):List Int)).bind fun y258=>((spec_l6Rd_pick.f k s0_0 bt256.2 3).bind fun bt261=>(if 0 ≤ bt261.1 then (if bt261.1 < (y258.length:Int) then (some (rd y258 bt261.1,bt261.2)) else (none)) else (none)))) else ((spec_l6Rd_pick.f k s0_0 bt256.2 6).bind fun bt264=>(some (bt264.1,bt264.2))))) = some (r1,r2):=h
 clear h
 replace H:=Option.bind_eq_some_iff.mp H
 obtain ⟨⟨t256,t257⟩,A20,H⟩:=H
 replace H:(if t256 = 0 then ((some (([(-1),12,13]:List Int):List Int)).bind fun y258=>((spec_l6Rd_pick.f k s0_0 t257 3).bind fun bt261=>(if 0 ≤ bt261.1 then (if bt261.1 < (y258.length:Int) then (some (rd y258 bt261.1,bt261.2)) else (none)) else (none)))) else ((spec_l6Rd_pick.f k s0_0 t257 6).bind fun bt264=>(some (bt264.1,bt264.2)))) = some (r1,r2):=H
 have A2:=Aside0.mk A20
 clear A20
 by_cases c3:t256 = 0
 ·rw [if_pos c3] at H
  have c3b0:(t256 == 0) = true:=beq_iff_eq.mpr c3
  have c3b1:(t256 != 0) = false:=bne_eq_false_iff_eq.mpr c3
  clear c3
  obtain ⟨y258,hy258⟩:∃ y_:List Int,y_ = (([(-1),12,13]:List Int)):=⟨_,rfl⟩
  replace H:((spec_l6Rd_pick.f k s0_0 t257 3).bind fun bt261=>(if 0 ≤ bt261.1 then (if bt261.1 < (y258.length:Int) then (some (rd y258 bt261.1,bt261.2)) else (none)) else (none))) = some (r1,r2):=by rw [hy258];exact H
  have Ny258:=Aside0.mk hy258
  clear hy258
  replace H:=Option.bind_eq_some_iff.mp H
  obtain ⟨⟨t261,t262⟩,A40,H⟩:=H
  replace H:(if 0 ≤ t261 then (if t261 < (y258.length:Int) then (some (rd y258 t261,t262)) else (none)) else (none)) = some (r1,r2):=H
  have A4:=Aside0.mk A40
  clear A40
  by_cases c5:0 ≤ t261
  ·rw [if_pos c5] at H
   have c5b0:decide (0 ≤ t261) = true:=decide_eq_true c5
   clear c5
   by_cases c6:t261 < (y258.length:Int)
   ·rw [if_pos c6] at H
    have c6b0:decide (t261 < (y258.length:Int)) = true:=decide_eq_true c6
    clear c6
    simp only [Option.some.injEq,Prod.mk.injEq] at H
    obtain ⟨rfl,rfl⟩:=H
    go_enter Try.func49,Try.ntmps49
    go_wp2_with (first | ((with_reducible refine gate_callee (f:=48) rfl ?_);refine goesL_ (some 4) rfl rfl Try.func48 (by kernel_rfl) rfl #[.pointer (some ⟨g,0,none⟩),.int .i64 20] rfl (by (try simp only [List.map_toArray,List.map_cons,List.map_nil]);first | done | rfl | (simp only [List.length_drop,List.length_take];rfl)) ?_;(with_reducible refine (spec_l6Rd_pick.calls k g s0_0 s0_1 20 t256 t257 w0 _ ?side1 ?side2 A2.out).mono ?_);(case side1=>repeat (with_reducible first | exact HI0.out | apply IsS67.alloc | apply IsS67.drewN | apply IsS67.drew | apply IsS67.set_1));(case side2=>repeat (with_reducible first | exact HB.out | apply below_alloc | apply pw_below_drewN | apply below_drew1 | refine below_set ?_ (IsS67.ge HI0.out)));rintro e w7 ⟨rfl,hi,hb,hk⟩;refine ⟨_,rfl,?_⟩;have n0_:=Aside0.mk (KeepBut.trans (by repeat (with_reducible first | exact HK.out | apply KeepBut.set_ | apply keep_drewN | apply keep_drew | apply keep_alloc)) hk (.inl rfl));have n1_:=Aside0.mk (hb);have n2_:=Aside0.mk (hi);clear HK;clear HB;clear HI0;have HK:=n0_;have HB:=n1_;have HI0:=n2_;clear n0_ n1_ n2_;(try clear hb);(try clear hb2);(try clear hk);(try clear hi)) | ((with_reducible refine gate_dst (N:=6) rfl ?_);refine Kd.R_lit (Kd.int .i64) _ 3 ?hg (N:=6) ?hd (xs:=([(-1),12,13]:List Int)) (inner:=[.int .i64 (-1),.int .i64 12,.int .i64 13]) (ok:=fun _=>True) (okp:=fun _=>True) ?hr ?hp (fun _ hk=>hk) trivial (Below.refl _ _) (Nat.le_refl _) (by simp) ?_;(case hd=>rfl);(case hg=>rfl);(case hr=>first | (go_simp;done) | (go_simp;rfl));(case hp=>exact (Reps.one (show Kd.M (Kd.int .i64) _ _ _ (-1) [.int .i64 (-1)] from rfl) (Reps.one (show Kd.M (Kd.int .i64) _ _ _ 12 [.int .i64 12] from rfl) (Reps.one (show Kd.M (Kd.int .i64) _ _ _ 13 [.int .i64 13] from rfl) (Reps.none _ _)))));intro v259 w8 ho9 hb hg_ hnew_;clear hg_ hnew_;(first | rw [← Ny258.out] at ho9 | (simp only [Int.reduceToNat] at ho9;rw [← Ny258.out] at ho9));have n0_:=Aside0.mk (Kd.R_lower ho9 (keep_size (w:=w) (g:=g) (row:=none) (by repeat (with_reducible first | exact HK.out | apply KeepBut.set_ | apply keep_drewN | apply keep_drew | apply keep_alloc))));have n1_:=Aside0.mk (IsS67.below (by repeat (with_reducible first | exact HI0.out | apply IsS67.alloc | apply IsS67.drewN | apply IsS67.drew | apply IsS67.set_1)) hb);have n2_:=Aside0.mk (KeepBut.trans (by repeat (with_reducible first | exact HK.out | apply KeepBut.set_ | apply keep_drewN | apply keep_drew | apply keep_alloc)) (KeepBut.of_below hb g none) (.inl rfl));have n3_:=Aside0.mk (below_step (by repeat (with_reducible first | exact HB.out | apply below_alloc | apply pw_below_drewN | apply below_drew1 | refine below_set ?_ (IsS67.ge HI0.out))) hb);clear HI0;clear HK;clear HB;have HO260:=n0_;have HI0:=n1_;have HK:=n2_;have HB:=n3_;clear n0_ n1_ n2_ n3_;clear hb ho9) | ((with_reducible refine gate_callee (f:=48) rfl ?_);refine goesL_ (some 8) rfl rfl Try.func48 (by kernel_rfl) rfl #[.pointer (some ⟨g,0,none⟩),.int .i64 3] rfl (by (try simp only [List.map_toArray,List.map_cons,List.map_nil]);first | done | rfl | (simp only [List.length_drop,List.length_take];rfl)) ?_;(with_reducible refine (spec_l6Rd_pick.calls k g s0_0 t257 3 t261 t262 w0 _ ?side1 ?side2 A4.out).mono ?_);(case side1=>repeat (with_reducible first | exact HI0.out | apply IsS67.alloc | apply IsS67.drewN | apply IsS67.drew | apply IsS67.set_1));(case side2=>repeat (with_reducible first | exact HB.out | apply below_alloc | apply pw_below_drewN | apply below_drew1 | refine below_set ?_ (IsS67.ge HI0.out)));rintro e w10 ⟨rfl,hi,hb,hk⟩;refine ⟨_,rfl,?_⟩;have n0_:=Aside0.mk (Kd.R_mono (Kd.R_keep (IsS67.apart (show IsS67 w0 _ g s0_0 t257 from by repeat (with_reducible first | exact HI0.out | apply IsS67.alloc | apply IsS67.drewN | apply IsS67.drew | apply IsS67.set_1)) (by (with_reducible repeat (first | apply Kd.R_alloc | apply Kd.R_drewN | apply Kd.R_drew));exact HO260.out) (by decide)) hk (fun _ h=>h.2)) (fun _ h=>h.1));have n1_:=Aside0.mk (KeepBut.trans (by repeat (with_reducible first | exact HK.out | apply KeepBut.set_ | apply keep_drewN | apply keep_drew | apply keep_alloc)) hk (.inl rfl));have n2_:=Aside0.mk (hb);have n3_:=Aside0.mk (hi);clear HO260;clear HK;clear HB;clear HI0;have HO260:=n0_;have HK:=n1_;have HB:=n2_;have HI0:=n3_;clear n0_ n1_ n2_ n3_;(try clear hb);(try clear hb2);(try clear hk);(try clear hi);obtain ⟨Ao11,co11,eo11⟩:=Kd.R_slice HO260.out;subst eo11;have p263:0 ≤ (t261:Int):=of_decide_eq_true (by first | (with_reducible assumption) | assumption);have q263:t261 < (y258.length:Int):=of_decide_eq_true (by first | (with_reducible assumption) | assumption);obtain ⟨ad263,e263,hx263_0⟩:=Kd.at_int (Kd.R_reads' HO260.out).2.2 t261 p263 q263;cases e263;replace p263:=eq_true p263;replace q263:=eq_true q263))
    go_ret
    exact ⟨rfl,by exact HI0.out,by exact HB.out,by exact HK.out⟩
   ·rw [if_neg c6] at H
    exact absurd H (by simp)
  ·rw [if_neg c5] at H
   exact absurd H (by simp)
 ·rw [if_neg c3] at H
  have c3b0:(t256 == 0) = false:=beq_eq_false_iff_ne.mpr c3
  have c3b1:(t256 != 0) = true:=bne_iff_ne.mpr c3
  replace H:=Option.bind_eq_some_iff.mp H
  obtain ⟨⟨t264,t265⟩,A120,H⟩:=H
  replace H:(some (t264,t265)) = some (r1,r2):=H
  have A12:=Aside0.mk A120
  clear A120
  simp only [Option.some.injEq,Prod.mk.injEq] at H
  obtain ⟨rfl,rfl⟩:=H
  go_enter Try.func49,Try.ntmps49
  go_wp2_with (first | ((with_reducible refine gate_callee (f:=48) rfl ?_);refine goesL_ (some 4) rfl rfl Try.func48 (by kernel_rfl) rfl #[.pointer (some ⟨g,0,none⟩),.int .i64 20] rfl (by (try simp only [List.map_toArray,List.map_cons,List.map_nil]);first | done | rfl | (simp only [List.length_drop,List.length_take];rfl)) ?_;(with_reducible refine (spec_l6Rd_pick.calls k g s0_0 s0_1 20 t256 t257 w0 _ ?side1 ?side2 A2.out).mono ?_);(case side1=>repeat (with_reducible first | exact HI0.out | apply IsS67.alloc | apply IsS67.drewN | apply IsS67.drew | apply IsS67.set_1));(case side2=>repeat (with_reducible first | exact HB.out | apply below_alloc | apply pw_below_drewN | apply below_drew1 | refine below_set ?_ (IsS67.ge HI0.out)));rintro e w13 ⟨rfl,hi,hb,hk⟩;refine ⟨_,rfl,?_⟩;have n0_:=Aside0.mk (KeepBut.trans (by repeat (with_reducible first | exact HK.out | apply KeepBut.set_ | apply keep_drewN | apply keep_drew | apply keep_alloc)) hk (.inl rfl));have n1_:=Aside0.mk (hb);have n2_:=Aside0.mk (hi);clear HK;clear HB;clear HI0;have HK:=n0_;have HB:=n1_;have HI0:=n2_;clear n0_ n1_ n2_;(try clear hb);(try clear hb2);(try clear hk);(try clear hi)) | ((with_reducible refine gate_callee (f:=48) rfl ?_);refine goesL_ (some 12) rfl rfl Try.func48 (by kernel_rfl) rfl #[.pointer (some ⟨g,0,none⟩),.int .i64 6] rfl (by (try simp only [List.map_toArray,List.map_cons,List.map_nil]);first | done | rfl | (simp only [List.length_drop,List.length_take];rfl)) ?_;(with_reducible refine (spec_l6Rd_pick.calls k g s0_0 t257 6 t264 t265 w0 _ ?side1 ?side2 A12.out).mono ?_);(case side1=>repeat (with_reducible first | exact HI0.out | apply IsS67.alloc | apply IsS67.drewN | apply IsS67.drew | apply IsS67.set_1));(case side2=>repeat (with_reducible first | exact HB.out | apply below_alloc | apply pw_below_drewN | apply below_drew1 | refine below_set ?_ (IsS67.ge HI0.out)));rintro e w14 ⟨rfl,hi,hb,hk⟩;refine ⟨_,rfl,?_⟩;have n0_:=Aside0.mk (KeepBut.trans (by repeat (with_reducible first | exact HK.out | apply KeepBut.set_ | apply keep_drewN | apply keep_drew | apply keep_alloc)) hk (.inl rfl));have n1_:=Aside0.mk (hb);have n2_:=Aside0.mk (hi);clear HK;clear HB;clear HI0;have HK:=n0_;have HB:=n1_;have HI0:=n2_;clear n0_ n1_ n2_;(try clear hb);(try clear hb2);(try clear hk);(try clear hi)))
  go_ret
  exact ⟨rfl,by exact HI0.out,by exact HB.out,by exact HK.out⟩
end Go.Proofs.Ytablnoddkllhmaa.P
