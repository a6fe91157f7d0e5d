/- What the Go functions that the laws reach compute, and that their calls come to just that: told by a program of this session (aprint.py). No condition. -/
import Derived.Test.YtbcjpdahdecehaaDoorP0
namespace Go.Proofs.YtbcjpdahdecehaaDoor.P
open Go.RowKit Go.Proofs.YtbcjpdahdecehaaDoorW.PrintWords Go.Proofs.YtbcjpdahdecehaaDoorW.PrintLast Go.Proofs.YtbcjpdahdecehaaDoorW.PrintMore
attribute [local go_sem] max2_int min2_int max_two min_two max_three min_three max_four min_four
set_option linter.unusedVariables false
set_option linter.unusedSimpArgs false
def IsS73 (w0 W:World) (g:Nat) (f0:List Int) (f1:Int):Prop:=∃ A0 c0,W.heap[g]? = some (.cells #[.slice A0 f0.length c0,.int .i64 f1] 73 (0,0))∧w0.heap.size ≤ g∧Kd.C (Kd.int .u8) w0 A0 f0.length f0
theorem IsS73.grown {w0 W:World} {g:Nat} {f0:List Int} {f1:Int} {W1:World} {row:Option Nat} (h:IsS73 w0 W g f0 f1) (hw:W.grownBy W1 row) (hne:some g ≠ row):IsS73 w0 W1 g f0 f1:=by
 obtain ⟨A0,c0,hb,hg,hr0⟩:=h
 exact ⟨A0,c0,blk_grown hb hw hne,hg,hr0⟩
theorem IsS73.own_neN {w0 W:World} {g:Nat} {f0:List Int} {f1:Int} {α:Type} {d:Kd α} {e:Nat} {base:Nat} {ok:Nat → Prop} {v:Value} {xs:List α} (h:IsS73 w0 W g f0 f1) (ho:Kd.N d e W base ok v xs) (ht:e ≠ 73):some g ≠ v.ownBlock:=by
 obtain ⟨A0,c0,hb,hg,hr0⟩:=h
 exact Kd.N_ne ho hb ht
theorem IsS73.fresh {w0 W:World} {g:Nat} {f0:List Int} {f1:Int} (h:IsS73 w0 W g f0 f1):∀ k,W.heap.size ≤ k → k ≠ g:=by
 obtain ⟨A0,c0,hb,hg,hr0⟩:=h
 exact Kd.freshB hb
theorem IsS73.kept {w0 W:World} {g:Nat} {f0:List Int} {f1:Int} {W1:World} {S:Nat → Prop} (h:IsS73 w0 W g f0 f1) (hk:Kept W W1 S) (hne:¬ S g):IsS73 w0 W1 g f0 f1:=by
 obtain ⟨A0,c0,hb,hg,hr0⟩:=h
 exact ⟨A0,c0,blk_kept hb hk hne,hg,hr0⟩
theorem IsS73.below {w0 W:World} {g:Nat} {f0:List Int} {f1:Int} {W1:World} (h:IsS73 w0 W g f0 f1) (hw:Below W.heap.size W W1):IsS73 w0 W1 g f0 f1:=h.grown (grown_of_below hw none) (by simp)
theorem IsS73.alloc {w0 W:World} {g:Nat} {f0:List Int} {f1:Int} (h:IsS73 w0 W g f0 f1) (o:Obj):IsS73 w0 (W.alloc o) g f0 f1:=h.below (below_alloc (Below.refl _ _) o)
theorem IsS73.drewN {w0 W:World} {g:Nat} {f0:List Int} {f1:Int} (h:IsS73 w0 W g f0 f1) (m:Nat):IsS73 w0 (W.drewN m) g f0 f1:=h
theorem IsS73.drew {w0 W:World} {g:Nat} {f0:List Int} {f1:Int} (h:IsS73 w0 W g f0 f1):IsS73 w0 W.drew g f0 f1:=h
theorem IsS73.at_ {w0 W:World} {g:Nat} {f0:List Int} {f1:Int} {w':World} {m:Nat} (hq:W.drewN m = w') (h:IsS73 w0 W g f0 f1):IsS73 w0 w' g f0 f1:=by subst hq;exact IsS73.drewN h m
theorem IsS73.apart {w0 W:World} {g:Nat} {f0:List Int} {f1:Int} {α:Type} {d:Kd α} {e:Nat} {base:Nat} {ok:Nat → Prop} {v:Value} {xs:List α} (h:IsS73 w0 W g f0 f1) (ho:d.R e W base ok v xs) (ht:∀ q,q ∈ e :: d.E → q ≠ 73):d.R e W base (fun k=>ok k∧k ≠ g) v xs:=by
 obtain ⟨A0,c0,hb,hg,hr0⟩:=h
 exact Kd.R_types ho hb ht
theorem IsS73.own_ne {w0 W:World} {g:Nat} {f0:List Int} {f1:Int} {α:Type} {d:Kd α} {e:Nat} {base:Nat} {ok:Nat → Prop} {v:Value} {xs:List α} (h:IsS73 w0 W g f0 f1) (ho:d.R e W base ok v xs) (ht:e ≠ 73):some g ≠ v.ownBlock:=by
 obtain ⟨A0,c0,hb,hg,hr0⟩:=h
 exact Kd.R_ne ho hb ht
theorem IsS73.lt {w0 W:World} {g:Nat} {f0:List Int} {f1:Int} (h:IsS73 w0 W g f0 f1):g < W.heap.size:=by
 obtain ⟨A0,c0,hb,hg,hr0⟩:=h
 exact blk_lt hb
theorem IsS73.ge {w0 W:World} {g:Nat} {f0:List Int} {f1:Int} (h:IsS73 w0 W g f0 f1):w0.heap.size ≤ g:=by
 obtain ⟨A0,c0,hb,hg,hr0⟩:=h
 exact hg
theorem IsS73.far {w0 W:World} {g:Nat} {f0:List Int} {f1:Int} {p:Addr} (h:IsS73 w0 W g f0 f1) (hne:g ≠ p.block) (u:Value):IsS73 w0 (W.setCell p u) g f0 f1:=by
 obtain ⟨A0,c0,hb,hg,hr0⟩:=h
 exact ⟨A0,c0,blk_far hb hne u,hg,hr0⟩
theorem cellS73_0 {W:World} {g:Nat} {A0:Option Addr} {c0:Nat} {f0:List Int} {f1:Int} (h:W.heap[g]? = some (.cells #[.slice A0 f0.length c0,.int .i64 f1] 73 (0,0))):W.cell? ⟨g,0,none⟩ = some (.slice A0 f0.length c0):=(blk_cell h 0).trans rfl
theorem cellS73_1 {W:World} {g:Nat} {A0:Option Addr} {c0:Nat} {f0:List Int} {f1:Int} (h:W.heap[g]? = some (.cells #[.slice A0 f0.length c0,.int .i64 f1] 73 (0,0))):W.cell? ⟨g,1,none⟩ = some (.int .i64 f1):=(blk_cell h 1).trans rfl
theorem IsS73.set_1 {w0 W:World} {g:Nat} {f0:List Int} {f1:Int} (h:IsS73 w0 W g f0 f1) (x:Int):IsS73 w0 (W.setCell ⟨g,1,none⟩ (.int .i64 x)) g f0 x:=by
 obtain ⟨A0,c0,hb,hg,hr0⟩:=h
 exact ⟨A0,c0,by simpa using blk_set hb 1 (.int .i64 x),hg,hr0⟩
theorem IsS73.new (w0 W:World) (A0:Option Addr) (c0:Nat) (f0:List Int) (f1:Int) (hB:Below w0.heap.size w0 W) (hr0:Kd.C (Kd.int .u8) w0 A0 f0.length f0):IsS73 w0 (W.alloc (.cells #[.slice A0 f0.length c0,.int .i64 f1] 73)) W.heap.size f0 f1:=⟨A0,c0,by simpa using heap_alloc_new W _,hB.size,hr0⟩
mutual
def impl_sealNodes.l0:Nat → Int → Int → List (S25) → Int → Int → Option (Int)
 | 0,_,_,_,_,_=>none
 | k + 1,x1,x5,x9,x10,x11=>if x11 < x10 then (if 0 ≤ x11 then (if x11 < (x9.length:Int) then (if x5 > x1 then (some x5) else ((impl_sealNodes.f k ((rd_T25 x9 x11).f0) ((rd_T25 x9 x11).f1) ((rd_T25 x9 x11).f2) (wrap64 (x1 - x5))).bind fun t148=>(impl_sealNodes.l0 k x1 (wrap64 (x5 + t148)) x9 x10 (wrap64 (x11 + 1))))) else (none)) else (none)) else (some x5)
def impl_sealNodes.f:Nat → Int → Int → List (S25) → Int → Option (Int)
 | 0,_,_,_,_=>none
 | k + 1,a0_0,a0_1,l0_2,a1=>impl_sealNodes.l0 k a1 1 l0_2 (l0_2.length:Int) 0
end
theorem impl_sealNodes.mono_l:∀ k,(∀ y0 y1 y2 y3,LeO (impl_sealNodes.f k y0 y1 y2 y3) (impl_sealNodes.f (k + 1) y0 y1 y2 y3))∧(∀ y0 y1 y2 y3 y4,LeO (impl_sealNodes.l0 k y0 y1 y2 y3 y4) (impl_sealNodes.l0 (k + 1) y0 y1 y2 y3 y4))
 | 0=>⟨fun _ _ _ _ r h=>by simp [impl_sealNodes.f] at h,fun _ _ _ _ _ r h=>by simp [impl_sealNodes.l0] at h⟩
 | k + 1=>by
  obtain ⟨ih0,ih1⟩:=impl_sealNodes.mono_l k
  refine ⟨?_,?_⟩
  ·intro y0 y1 y2 y3
   unfold impl_sealNodes.f
   repeat' first
   | (with_reducible exact ih0 _ _ _ _)
   | (with_reducible exact ih1 _ _ _ _ _)
   | (with_reducible exact LeO.refl _)
   | (with_reducible exact LeO.none _)
   | (with_reducible refine LeO.ite ?_ ?_)
   | (with_reducible refine LeO.bind ?_ (fun _=>?_))
   | exact ih0 _ _ _ _
   | exact ih1 _ _ _ _ _
   | exact LeO.none _
   | refine LeO.ite ?_ ?_
   | refine LeO.bind ?_ (fun _=>?_)
  ·intro y0 y1 y2 y3 y4
   unfold impl_sealNodes.l0
   repeat' first
   | (with_reducible exact ih0 _ _ _ _)
   | (with_reducible exact ih1 _ _ _ _ _)
   | (with_reducible exact LeO.refl _)
   | (with_reducible exact LeO.none _)
   | (with_reducible refine LeO.ite ?_ ?_)
   | (with_reducible refine LeO.bind ?_ (fun _=>?_))
   | exact ih0 _ _ _ _
   | exact ih1 _ _ _ _ _
   | exact LeO.none _
   | refine LeO.ite ?_ ?_
   | refine LeO.bind ?_ (fun _=>?_)
theorem impl_sealNodes.mono:∀ a0 a1 a2 a3 k,LeO (impl_sealNodes.f k a0 a1 a2 a3) (impl_sealNodes.f (k + 1) a0 a1 a2 a3):=by
 intro a0 a1 a2 a3 k
 obtain ⟨ih0,ih1⟩:=impl_sealNodes.mono_l k
 exact ih0 a0 a1 a2 a3
set_option maxHeartbeats 8000000 in
set_option maxRecDepth 100000 in
theorem impl_sealNodes.calls (k:Nat):∀ (a0_0:Int) (a0_1:Int) (A0_2:Option Addr) (c0_2:Nat) (l0_2:List (S25)) (a1:Int) (r:Int) (w:World) (hr0_2:Kd.C k25 w A0_2 l0_2.length l0_2) (hc0_2:l0_2.length ≤ c0_2) (h:impl_sealNodes.f k a0_0 a0_1 l0_2 a1 = some r),
  Calls Tryd.prog 42 #[.agg #[.int .i64 a0_0,.int .i64 a0_1,.slice A0_2 l0_2.length c0_2],.int .i64 a1] w fun e w'=>e = .returned (.int .i64 r)∧Below w.heap.size w w':=by
 induction k using Nat.strongRecOn with
 | _ k ih =>
 intro a0_0 a0_1 A0_2 c0_2 l0_2 a1 r w hr0_2 hc0_2 h
 cases k with
 | zero=>exact absurd h (by simp [impl_sealNodes.f])
 | succ k =>
 simp only [impl_sealNodes.f] at h
 have hu25:=Tryd.underlying25
 have HR0_2:=Aside0.mk hr0_2
 have HC0_2:=Aside0.mk hc0_2
 clear hr0_2 hc0_2
 have HB:=Aside0.mk (Below.refl w.heap.size w)
 have H:(impl_sealNodes.l0 k a1 1 l0_2 (l0_2.length:Int) 0) = some r:=h
 clear h
 have H':=Aside0.mk H
 clear H
 go_enter Tryd.func42,Tryd.ntmps42
 go_wp2_with (first | ((with_reducible refine gate_dst (N:=2) rfl ?_);refine box_event ?hg (N:=2) ?hd (cs:=#[.int .i64 a0_0,.int .i64 a0_1,.slice A0_2 l0_2.length c0_2]) (t:=25) ?hr ?_;(case hd=>rfl);(case hg=>rfl);(case hr=>first | (go_simp;done) | (go_simp;rfl));intro gb145 hg w3 hbox hb;have n0_:=Aside0.mk (below_step (by repeat (first | (with_reducible first | exact HB.out | apply below_alloc | apply pw_below_drewN | apply below_drew1) | exact HB.out)) hb);have n1_:=Aside0.mk (hbox);have n2_:=Aside0.mk ((by rw [hg];exact (below_size (by repeat (first | (with_reducible first | exact HB.out | apply below_alloc | apply pw_below_drewN | apply below_drew1) | exact HB.out))):w.heap.size ≤ gb145));have n3_:=Aside0.mk ((by rw [hg];exact (below_size (by repeat (first | (with_reducible first | exact HB.out | apply below_alloc | apply pw_below_drewN | apply below_drew1) | exact HB.out))):w.heap.size ≤ gb145));clear HB;have HB:=n0_;have BK145:=n1_;have GW145:=n2_;have GE145:=n3_;clear n0_ n1_ n2_ n3_;clear hb hbox hg;have hcz4_0:w3.cell? ⟨gb145,0,none⟩ = some (.int .i64 a0_0):=(blk_cell BK145.out 0).trans rfl;have hcz4_1:w3.cell? ⟨gb145,1,none⟩ = some (.int .i64 a0_1):=(blk_cell BK145.out 1).trans rfl;have hcz4_2:w3.cell? ⟨gb145,2,none⟩ = some (.slice A0_2 l0_2.length c0_2):=(blk_cell BK145.out 2).trans rfl;have hfz4_0:=blk_frozen BK145.out 0;have hfz4_1:=blk_frozen BK145.out 1;have hfz4_2:=blk_frozen BK145.out 2))
 go_loopg [5,11] k (fun kq v5 v11 w'=>∃ (x5_1:Int) (x11_1:Int),v5 = .int .i64 x5_1∧v11 = .int .i64 x11_1∧Aside0 (impl_sealNodes.l0 kq a1 x5_1 l0_2 (l0_2.length:Int) x11_1 = some r)∧Aside0 (kq ≤ k)∧Aside0 (w'.heap[gb145]? = some (.cells #[.int .i64 a0_0,.int .i64 a0_1,(.slice A0_2 l0_2.length c0_2)] 25 (0,0)))∧Aside0 (Below w.heap.size w w'))
 case atStart=>exact ⟨(1),(0),(by first | rfl | (simp;done) | (simp [*];done)),(by first | rfl | (simp;done) | (simp [*];done)),H',⟨Nat.le_refl _⟩,⟨by (with_reducible repeat (first | refine blk_drewN ?_ _ | refine blk_drew ?_ | refine blk_alloc ?_ _));exact BK145.out⟩,⟨by repeat (first | (with_reducible first | exact HB.out | apply below_alloc | apply pw_below_drewN | apply below_drew1 | refine below_set ?_ GE145.out) | exact HB.out)⟩⟩
 case round =>
  clear H'
  try clear p2
  try clear c4
  try clear hcz4_0
  try clear hcz4_1
  try clear hcz4_2
  try clear hfz4_0
  try clear hfz4_1
  try clear hfz4_2
  obtain ⟨x5_1,x11_1,rfl,rfl,HA,HK1,BK145,HB⟩:=hrel
  cases gk with
  | zero=>exact absurd HA.out (by simp [impl_sealNodes.l0])
  | succ k1 =>
   have H:=HA.out
   clear HA
   simp only [impl_sealNodes.l0] at H
   by_cases c5:x11_1 < (l0_2.length:Int)
   ·rw [if_pos c5] at H
    have c5b0:decide (x11_1 < (l0_2.length:Int)) = true:=decide_eq_true c5
    clear c5
    by_cases c6:0 ≤ x11_1
    ·rw [if_pos c6] at H
     have c6b0:decide (0 ≤ x11_1) = true:=decide_eq_true c6
     clear c6
     by_cases c7:x11_1 < (l0_2.length:Int)
     ·rw [if_pos c7] at H
      have c7b0:decide (x11_1 < (l0_2.length:Int)) = true:=decide_eq_true c7
      clear c7
      by_cases c8:x5_1 > a1
      ·rw [if_pos c8] at H
       have c8b0:decide (a1 < x5_1) = true:=decide_eq_true c8
       clear c8
       obtain rfl:=Option.some.inj H
       have p146:0 ≤ (x11_1:Int):=of_decide_eq_true (by first | (with_reducible assumption) | assumption)
       have q146:x11_1 < (l0_2.length:Int):=of_decide_eq_true (by first | (with_reducible assumption) | assumption)
       obtain ⟨ad146,A146_2,c146_2,e146,hx146_0,hx146_1,hx146_2,hl146_2,hi146_2⟩:=at_T25 HR0_2.out x11_1 p146 q146
       cases e146
       replace hx146_0:=(HB.out.cell (World.block_lt_of_cell? w _ hx146_0)).trans hx146_0
       replace hx146_1:=(HB.out.cell (World.block_lt_of_cell? w _ hx146_1)).trans hx146_1
       replace hx146_2:=(HB.out.cell (World.block_lt_of_cell? w _ hx146_2)).trans hx146_2
       have HR146_2:=Aside0.mk hi146_2
       have HC146_2:=Aside0.mk hl146_2
       clear hi146_2 hl146_2
       replace p146:=eq_true p146
       replace q146:=eq_true q146
       go_wp2_with (first | ((with_reducible refine gate_dst (N:=7) rfl ?_);refine box_event ?hg (N:=7) ?hd (cs:=#[.int .i64 0,.int .i64 0,.slice none 0 0]) (t:=25) ?hr ?_;(case hd=>rfl);(case hg=>rfl);(case hr=>first | (go_simp;done) | (go_simp;rfl));intro gb147 hg w9 hbox hb;have n0_:=Aside0.mk (blk_below (g:=gb145) (o:=.cells #[.int .i64 a0_0,.int .i64 a0_1,.slice (some ad146) l0_2.length c0_2] 25 (0,0)) (by (with_reducible repeat (first | refine blk_drewN ?_ _ | refine blk_drew ?_ | refine blk_alloc ?_ _));exact BK145.out) hb);have n1_:=Aside0.mk (below_step (by repeat (first | (with_reducible first | exact HB.out | apply below_alloc | apply pw_below_drewN | apply below_drew1 | refine below_set ?_ GE145.out) | exact HB.out)) hb);have n2_:=Aside0.mk (hbox);have n3_:=Aside0.mk ((by rw [hg];exact (below_size (by repeat (first | (with_reducible first | exact HB.out | apply below_alloc | apply pw_below_drewN | apply below_drew1 | refine below_set ?_ GE145.out) | exact HB.out))):w.heap.size ≤ gb147));have n4_:=Aside0.mk ((by rw [hg];exact (below_size (by repeat (first | (with_reducible first | exact HB.out | apply below_alloc | apply pw_below_drewN | apply below_drew1 | refine below_set ?_ GE145.out) | exact HB.out))):w.heap.size ≤ gb147));have n5_:=Aside0.mk ((by rw [hg];exact Nat.ne_of_lt (blk_lt (g:=gb145) (o:=.cells #[.int .i64 a0_0,.int .i64 a0_1,.slice (some ad146) l0_2.length c0_2] 25 (0,0)) (by (with_reducible repeat (first | refine blk_drewN ?_ _ | refine blk_drew ?_ | refine blk_alloc ?_ _));exact BK145.out)):gb145 ≠ gb147));have n6_:=Aside0.mk ((by rw [hg];exact Nat.ne_of_gt (blk_lt (g:=gb145) (o:=.cells #[.int .i64 a0_0,.int .i64 a0_1,.slice (some ad146) l0_2.length c0_2] 25 (0,0)) (by (with_reducible repeat (first | refine blk_drewN ?_ _ | refine blk_drew ?_ | refine blk_alloc ?_ _));exact BK145.out)):gb147 ≠ gb145));clear BK145;clear HB;have BK145:=n0_;have HB:=n1_;have BK147:=n2_;have GW147:=n3_;have GE147:=n4_;have NB145_147:=n5_;have NB147_145:=n6_;clear n0_ n1_ n2_ n3_ n4_ n5_ n6_;clear hb hbox hg;have hnb10:=NB147_145.out;have hnc10:=NB145_147.out;have hcz11_0:w9.cell? ⟨gb147,0,none⟩ = some (.int .i64 0):=(blk_cell BK147.out 0).trans rfl;have hcz11_1:w9.cell? ⟨gb147,1,none⟩ = some (.int .i64 0):=(blk_cell BK147.out 1).trans rfl;have hcz11_2:w9.cell? ⟨gb147,2,none⟩ = some (.slice none 0 0):=(blk_cell BK147.out 2).trans rfl;have hfz11_0:=blk_frozen BK147.out 0;have hfz11_1:=blk_frozen BK147.out 1;have hfz11_2:=blk_frozen BK147.out 2))
       go_ret
       exact ⟨by first | rfl | (simp [errW_none,errW_some] <;> rfl) | (simp [*,errW_none,errW_some] <;> rfl),by repeat (first | (with_reducible first | exact HB.out | apply below_alloc | apply pw_below_drewN | apply below_drew1 | refine below_set ?_ GE145.out | refine below_set ?_ GE147.out) | exact HB.out)⟩
      ·rw [if_neg c8] at H
       have c8b0:decide (a1 < x5_1) = false:=decide_eq_false c8
       clear c8
       replace H:=Option.bind_eq_some_iff.mp H
       obtain ⟨t148,A120,H⟩:=H
       replace H:(impl_sealNodes.l0 k1 a1 (wrap64 (x5_1 + t148)) l0_2 (l0_2.length:Int) (wrap64 (x11_1 + 1))) = some r:=H
       have A12:=Aside0.mk A120
       clear A120
       have H':=Aside0.mk H
       clear H
       have p146:0 ≤ (x11_1:Int):=of_decide_eq_true (by first | (with_reducible assumption) | assumption)
       have q146:x11_1 < (l0_2.length:Int):=of_decide_eq_true (by first | (with_reducible assumption) | assumption)
       obtain ⟨ad146,A146_2,c146_2,e146,hx146_0,hx146_1,hx146_2,hl146_2,hi146_2⟩:=at_T25 HR0_2.out x11_1 p146 q146
       cases e146
       replace hx146_0:=(HB.out.cell (World.block_lt_of_cell? w _ hx146_0)).trans hx146_0
       replace hx146_1:=(HB.out.cell (World.block_lt_of_cell? w _ hx146_1)).trans hx146_1
       replace hx146_2:=(HB.out.cell (World.block_lt_of_cell? w _ hx146_2)).trans hx146_2
       have HR146_2:=Aside0.mk hi146_2
       have HC146_2:=Aside0.mk hl146_2
       clear hi146_2 hl146_2
       replace p146:=eq_true p146
       replace q146:=eq_true q146
       go_wp2_with (first | ((with_reducible refine gate_dst (N:=7) rfl ?_);refine box_event ?hg (N:=7) ?hd (cs:=#[.int .i64 0,.int .i64 0,.slice none 0 0]) (t:=25) ?hr ?_;(case hd=>rfl);(case hg=>rfl);(case hr=>first | (go_simp;done) | (go_simp;rfl));intro gb147 hg w13 hbox hb;have n0_:=Aside0.mk (blk_below (g:=gb145) (o:=.cells #[.int .i64 a0_0,.int .i64 a0_1,.slice (some ad146) l0_2.length c0_2] 25 (0,0)) (by (with_reducible repeat (first | refine blk_drewN ?_ _ | refine blk_drew ?_ | refine blk_alloc ?_ _));exact BK145.out) hb);have n1_:=Aside0.mk (below_step (by repeat (first | (with_reducible first | exact HB.out | apply below_alloc | apply pw_below_drewN | apply below_drew1 | refine below_set ?_ GE145.out) | exact HB.out)) hb);have n2_:=Aside0.mk (hbox);have n3_:=Aside0.mk ((by rw [hg];exact (below_size (by repeat (first | (with_reducible first | exact HB.out | apply below_alloc | apply pw_below_drewN | apply below_drew1 | refine below_set ?_ GE145.out) | exact HB.out))):w.heap.size ≤ gb147));have n4_:=Aside0.mk ((by rw [hg];exact (below_size (by repeat (first | (with_reducible first | exact HB.out | apply below_alloc | apply pw_below_drewN | apply below_drew1 | refine below_set ?_ GE145.out) | exact HB.out))):w.heap.size ≤ gb147));have n5_:=Aside0.mk ((by rw [hg];exact Nat.ne_of_lt (blk_lt (g:=gb145) (o:=.cells #[.int .i64 a0_0,.int .i64 a0_1,.slice (some ad146) l0_2.length c0_2] 25 (0,0)) (by (with_reducible repeat (first | refine blk_drewN ?_ _ | refine blk_drew ?_ | refine blk_alloc ?_ _));exact BK145.out)):gb145 ≠ gb147));have n6_:=Aside0.mk ((by rw [hg];exact Nat.ne_of_gt (blk_lt (g:=gb145) (o:=.cells #[.int .i64 a0_0,.int .i64 a0_1,.slice (some ad146) l0_2.length c0_2] 25 (0,0)) (by (with_reducible repeat (first | refine blk_drewN ?_ _ | refine blk_drew ?_ | refine blk_alloc ?_ _));exact BK145.out)):gb147 ≠ gb145));clear BK145;clear HB;have BK145:=n0_;have HB:=n1_;have BK147:=n2_;have GW147:=n3_;have GE147:=n4_;have NB145_147:=n5_;have NB147_145:=n6_;clear n0_ n1_ n2_ n3_ n4_ n5_ n6_;clear hb hbox hg;have hnb14:=NB147_145.out;have hnc14:=NB145_147.out;have hcz15_0:w13.cell? ⟨gb147,0,none⟩ = some (.int .i64 0):=(blk_cell BK147.out 0).trans rfl;have hcz15_1:w13.cell? ⟨gb147,1,none⟩ = some (.int .i64 0):=(blk_cell BK147.out 1).trans rfl;have hcz15_2:w13.cell? ⟨gb147,2,none⟩ = some (.slice none 0 0):=(blk_cell BK147.out 2).trans rfl;have hfz15_0:=blk_frozen BK147.out 0;have hfz15_1:=blk_frozen BK147.out 1;have hfz15_2:=blk_frozen BK147.out 2) | ((with_reducible refine gate_callee (f:=42) rfl ?_);refine goesL_ (some 24) rfl rfl Tryd.func42 (by kernel_rfl) rfl #[.agg #[.int .i64 ((rd_T25 l0_2 x11_1).f0),.int .i64 ((rd_T25 l0_2 x11_1).f1),.slice A146_2 ((rd_T25 l0_2 x11_1).f2).length c146_2],.int .i64 (wrap64 (a1 - x5_1))] rfl (by (try simp only [List.map_toArray,List.map_cons,List.map_nil]);first | done | rfl | (simp only [List.length_drop,List.length_take];rfl)) ?_;(with_reducible refine (ih k1 (by have:=HK1.out;omega) ((rd_T25 l0_2 x11_1).f0) ((rd_T25 l0_2 x11_1).f1) _ _ ((rd_T25 l0_2 x11_1).f2) (wrap64 (a1 - x5_1)) t148 _ ?side1 ?side2 A12.out).mono ?_);(case side1=>exact Kd.C_below HR146_2.out (by repeat (first | (with_reducible first | exact HB.out | apply below_alloc | apply pw_below_drewN | apply below_drew1 | refine below_set ?_ GE145.out | refine below_set ?_ GE147.out) | exact HB.out)));(case side2=>exact HC146_2.out);rintro e w16 ⟨rfl,hb⟩;refine ⟨_,rfl,?_⟩;have n0_:=Aside0.mk (blk_below (g:=gb145) (o:=.cells #[.int .i64 a0_0,.int .i64 a0_1,.slice (some ad146) l0_2.length c0_2] 25 (0,0)) (by (with_reducible repeat (first | refine blk_drewN ?_ _ | refine blk_drew ?_ | refine blk_alloc ?_ _));refine blk_far ?_ NB145_147.out _;(with_reducible repeat (first | refine blk_drewN ?_ _ | refine blk_drew ?_ | refine blk_alloc ?_ _));refine blk_far ?_ NB145_147.out _;(with_reducible repeat (first | refine blk_drewN ?_ _ | refine blk_drew ?_ | refine blk_alloc ?_ _));refine blk_far ?_ NB145_147.out _;(with_reducible repeat (first | refine blk_drewN ?_ _ | refine blk_drew ?_ | refine blk_alloc ?_ _));exact BK145.out) hb);have n1_:=Aside0.mk (blk_below (g:=gb147) (o:=.cells #[.int .i64 ((rd_T25 l0_2 x11_1).f0),.int .i64 ((rd_T25 l0_2 x11_1).f1),.slice A146_2 ((rd_T25 l0_2 x11_1).f2).length c146_2] 25 (0,0)) (by (with_reducible repeat (first | refine blk_drewN ?_ _ | refine blk_drew ?_ | refine blk_alloc ?_ _));refine blk_put (cs:=#[.int .i64 ((rd_T25 l0_2 x11_1).f0),.int .i64 ((rd_T25 l0_2 x11_1).f1),.slice none 0 0]) ?_ 2 _ rfl;(with_reducible repeat (first | refine blk_drewN ?_ _ | refine blk_drew ?_ | refine blk_alloc ?_ _));refine blk_put (cs:=#[.int .i64 ((rd_T25 l0_2 x11_1).f0),.int .i64 0,.slice none 0 0]) ?_ 1 _ rfl;(with_reducible repeat (first | refine blk_drewN ?_ _ | refine blk_drew ?_ | refine blk_alloc ?_ _));refine blk_put (cs:=#[.int .i64 0,.int .i64 0,.slice none 0 0]) ?_ 0 _ rfl;(with_reducible repeat (first | refine blk_drewN ?_ _ | refine blk_drew ?_ | refine blk_alloc ?_ _));exact BK147.out) hb);have n2_:=Aside0.mk (below_step (by repeat (first | (with_reducible first | exact HB.out | apply below_alloc | apply pw_below_drewN | apply below_drew1 | refine below_set ?_ GE145.out | refine below_set ?_ GE147.out) | exact HB.out)) hb);clear BK145;clear BK147;clear HB;have BK145:=n0_;have BK147:=n1_;have HB:=n2_;clear n0_ n1_ n2_;(try clear hb);(try clear hb2);(try clear hk);(try clear hi)))
       go_roundg k1
       case measure=>have:=HK1.out;omega
       case rel=>exact ⟨(wrap64 (x5_1 + t148)),(wrap64 (x11_1 + 1)),(by first | rfl | (simp;done) | (simp [*];done)),(by first | rfl | (simp;done) | (simp [*];done)),H',⟨by have:=HK1.out;omega⟩,⟨by (with_reducible repeat (first | refine blk_drewN ?_ _ | refine blk_drew ?_ | refine blk_alloc ?_ _));exact BK145.out⟩,⟨by repeat (first | (with_reducible first | exact HB.out | apply below_alloc | apply pw_below_drewN | apply below_drew1 | refine below_set ?_ GE145.out | refine below_set ?_ GE147.out) | exact HB.out)⟩⟩
     ·rw [if_neg c7] at H
      exact absurd H (by simp)
    ·rw [if_neg c6] at H
     exact absurd H (by simp)
   ·rw [if_neg c5] at H
    have c5b0:decide (x11_1 < (l0_2.length:Int)) = false:=decide_eq_false c5
    clear c5
    obtain rfl:=Option.some.inj H
    go_wp2
    go_ret
    exact ⟨by first | rfl | (simp [errW_none,errW_some] <;> rfl) | (simp [*,errW_none,errW_some] <;> rfl),by repeat (first | (with_reducible first | exact HB.out | apply below_alloc | apply pw_below_drewN | apply below_drew1 | refine below_set ?_ GE145.out) | exact HB.out)⟩
mutual
def impl_sealShape.j0:Nat → Bool → Int → Int → List (S25) → Option (Bool)
 | 0,_,_,_,_=>none
 | k + 1,x21,x150000,x150001,x150002=>if x21 = true then (if x150001 = 0 then (if (x150002.length:Int) = 2 then (if 0 < (x150002.length:Int) then ((impl_sealShape.f k ((rd_T25 x150002 0).f0) ((rd_T25 x150002 0).f1) ((rd_T25 x150002 0).f2)).bind fun t151=>(if t151 = true then (if 1 < (x150002.length:Int) then ((impl_sealShape.f k ((rd_T25 x150002 1).f0) ((rd_T25 x150002 1).f1) ((rd_T25 x150002 1).f2)).bind fun t153=>(some t153)) else (none)) else (some false))) else (none)) else (some false)) else (some false)) else (some false)
def impl_sealShape.f:Nat → Int → Int → List (S25) → Option (Bool)
 | 0,_,_,_=>none
 | k + 1,a0_0,a0_1,l0_2=>if a0_0 = 0 then (if a0_1 ≥ 0 then (if a0_1 ≤ 9 then (some ((l0_2.length:Int) == 0)) else (some false)) else (some false)) else (if a0_0 = 1 then (impl_sealShape.j0 k (a0_0 == 1) a0_0 a0_1 l0_2) else (impl_sealShape.j0 k (a0_0 == 2) a0_0 a0_1 l0_2))
end
theorem impl_sealShape.mono_l:∀ k,(∀ y0 y1 y2,LeO (impl_sealShape.f k y0 y1 y2) (impl_sealShape.f (k + 1) y0 y1 y2))∧(∀ y0 y1 y2 y3,LeO (impl_sealShape.j0 k y0 y1 y2 y3) (impl_sealShape.j0 (k + 1) y0 y1 y2 y3))
 | 0=>⟨fun _ _ _ r h=>by simp [impl_sealShape.f] at h,fun _ _ _ _ r h=>by simp [impl_sealShape.j0] at h⟩
 | k + 1=>by
  obtain ⟨ih0,ih1⟩:=impl_sealShape.mono_l k
  refine ⟨?_,?_⟩
  ·intro y0 y1 y2
   unfold impl_sealShape.f
   repeat' first
   | (with_reducible exact ih0 _ _ _)
   | (with_reducible exact ih1 _ _ _ _)
   | (with_reducible exact LeO.refl _)
   | (with_reducible exact LeO.none _)
   | (with_reducible refine LeO.ite ?_ ?_)
   | (with_reducible refine LeO.bind ?_ (fun _=>?_))
   | exact ih0 _ _ _
   | exact ih1 _ _ _ _
   | exact LeO.none _
   | refine LeO.ite ?_ ?_
   | refine LeO.bind ?_ (fun _=>?_)
  ·intro y0 y1 y2 y3
   unfold impl_sealShape.j0
   repeat' first
   | (with_reducible exact ih0 _ _ _)
   | (with_reducible exact ih1 _ _ _ _)
   | (with_reducible exact LeO.refl _)
   | (with_reducible exact LeO.none _)
   | (with_reducible refine LeO.ite ?_ ?_)
   | (with_reducible refine LeO.bind ?_ (fun _=>?_))
   | exact ih0 _ _ _
   | exact ih1 _ _ _ _
   | exact LeO.none _
   | refine LeO.ite ?_ ?_
   | refine LeO.bind ?_ (fun _=>?_)
theorem impl_sealShape.mono:∀ a0 a1 a2 k,LeO (impl_sealShape.f k a0 a1 a2) (impl_sealShape.f (k + 1) a0 a1 a2):=by
 intro a0 a1 a2 k
 obtain ⟨ih0,ih1⟩:=impl_sealShape.mono_l k
 exact ih0 a0 a1 a2
set_option maxHeartbeats 8000000 in
set_option maxRecDepth 100000 in
theorem impl_sealShape.calls (k:Nat):∀ (a0_0:Int) (a0_1:Int) (A0_2:Option Addr) (c0_2:Nat) (l0_2:List (S25)) (r:Bool) (w:World) (hr0_2:Kd.C k25 w A0_2 l0_2.length l0_2) (hc0_2:l0_2.length ≤ c0_2) (h:impl_sealShape.f k a0_0 a0_1 l0_2 = some r),
  Calls Tryd.prog 43 #[.agg #[.int .i64 a0_0,.int .i64 a0_1,.slice A0_2 l0_2.length c0_2]] w fun e w'=>e = .returned (.bool r)∧Below w.heap.size w w':=by
 induction k using Nat.strongRecOn with
 | _ k ih =>
 intro a0_0 a0_1 A0_2 c0_2 l0_2 r w hr0_2 hc0_2 h
 cases k with
 | zero=>exact absurd h (by simp [impl_sealShape.f])
 | succ k =>
 simp only [impl_sealShape.f] at h
 have hu25:=Tryd.underlying25
 have HR0_2:=Aside0.mk hr0_2
 have HC0_2:=Aside0.mk hc0_2
 clear hr0_2 hc0_2
 have HB:=Aside0.mk (Below.refl w.heap.size w)
 have H:(if a0_0 = 0 then (if a0_1 ≥ 0 then (if a0_1 ≤ 9 then (some ((l0_2.length:Int) == 0)) else (some false)) else (some false)) else (if a0_0 = 1 then (impl_sealShape.j0 k (a0_0 == 1) a0_0 a0_1 l0_2) else (impl_sealShape.j0 k (a0_0 == 2) a0_0 a0_1 l0_2))) = some r:=h
 clear h
 by_cases c2:a0_0 = 0
 ·rw [if_pos c2] at H
  have c2b0:(a0_0 == 0) = true:=beq_iff_eq.mpr c2
  have c2b1:(a0_0 != 0) = false:=bne_eq_false_iff_eq.mpr c2
  clear c2
  by_cases c3:a0_1 ≥ 0
  ·rw [if_pos c3] at H
   have c3b0:decide (0 ≤ a0_1) = true:=decide_eq_true c3
   clear c3
   by_cases c4:a0_1 ≤ 9
   ·rw [if_pos c4] at H
    have c4b0:decide (a0_1 ≤ 9) = true:=decide_eq_true c4
    clear c4
    obtain rfl:=Option.some.inj H
    go_enter Tryd.func43,Tryd.ntmps43
    go_wp2_with (first | ((with_reducible refine gate_dst (N:=1) rfl ?_);(try (refine gate_guard (by rfl) ?_;dsimp only));refine box_event ?hg (N:=1) ?hd (cs:=#[.int .i64 a0_0,.int .i64 a0_1,.slice A0_2 l0_2.length c0_2]) (t:=25) ?hr ?_;(case hd=>rfl);(case hg=>rfl);(case hr=>first | (go_simp;done) | (go_simp;rfl));intro gb149 hg w5 hbox hb;have n0_:=Aside0.mk (below_step (by repeat (first | (with_reducible first | exact HB.out | apply below_alloc | apply pw_below_drewN | apply below_drew1) | exact HB.out)) hb);have n1_:=Aside0.mk (hbox);have n2_:=Aside0.mk ((by rw [hg];exact (below_size (by repeat (first | (with_reducible first | exact HB.out | apply below_alloc | apply pw_below_drewN | apply below_drew1) | exact HB.out))):w.heap.size ≤ gb149));have n3_:=Aside0.mk ((by rw [hg];exact (below_size (by repeat (first | (with_reducible first | exact HB.out | apply below_alloc | apply pw_below_drewN | apply below_drew1) | exact HB.out))):w.heap.size ≤ gb149));clear HB;have HB:=n0_;have BK149:=n1_;have GW149:=n2_;have GE149:=n3_;clear n0_ n1_ n2_ n3_;clear hb hbox hg;have hcz6_0:w5.cell? ⟨gb149,0,none⟩ = some (.int .i64 a0_0):=(blk_cell BK149.out 0).trans rfl;have hcz6_1:w5.cell? ⟨gb149,1,none⟩ = some (.int .i64 a0_1):=(blk_cell BK149.out 1).trans rfl;have hcz6_2:w5.cell? ⟨gb149,2,none⟩ = some (.slice A0_2 l0_2.length c0_2):=(blk_cell BK149.out 2).trans rfl;have hfz6_0:=blk_frozen BK149.out 0;have hfz6_1:=blk_frozen BK149.out 1;have hfz6_2:=blk_frozen BK149.out 2))
    go_ret
    exact ⟨by first | rfl | (simp [errW_none,errW_some] <;> rfl) | (simp [*,errW_none,errW_some] <;> rfl),by repeat (first | (with_reducible first | exact HB.out | apply below_alloc | apply pw_below_drewN | apply below_drew1 | refine below_set ?_ GE149.out) | exact HB.out)⟩
   ·rw [if_neg c4] at H
    have c4b0:decide (a0_1 ≤ 9) = false:=decide_eq_false c4
    clear c4
    obtain rfl:=Option.some.inj H
    go_enter Tryd.func43,Tryd.ntmps43
    go_wp2_with (first | ((with_reducible refine gate_dst (N:=1) rfl ?_);(try (refine gate_guard (by rfl) ?_;dsimp only));refine box_event ?hg (N:=1) ?hd (cs:=#[.int .i64 a0_0,.int .i64 a0_1,.slice A0_2 l0_2.length c0_2]) (t:=25) ?hr ?_;(case hd=>rfl);(case hg=>rfl);(case hr=>first | (go_simp;done) | (go_simp;rfl));intro gb149 hg w7 hbox hb;have n0_:=Aside0.mk (below_step (by repeat (first | (with_reducible first | exact HB.out | apply below_alloc | apply pw_below_drewN | apply below_drew1) | exact HB.out)) hb);have n1_:=Aside0.mk (hbox);have n2_:=Aside0.mk ((by rw [hg];exact (below_size (by repeat (first | (with_reducible first | exact HB.out | apply below_alloc | apply pw_below_drewN | apply below_drew1) | exact HB.out))):w.heap.size ≤ gb149));have n3_:=Aside0.mk ((by rw [hg];exact (below_size (by repeat (first | (with_reducible first | exact HB.out | apply below_alloc | apply pw_below_drewN | apply below_drew1) | exact HB.out))):w.heap.size ≤ gb149));clear HB;have HB:=n0_;have BK149:=n1_;have GW149:=n2_;have GE149:=n3_;clear n0_ n1_ n2_ n3_;clear hb hbox hg;have hcz8_0:w7.cell? ⟨gb149,0,none⟩ = some (.int .i64 a0_0):=(blk_cell BK149.out 0).trans rfl;have hcz8_1:w7.cell? ⟨gb149,1,none⟩ = some (.int .i64 a0_1):=(blk_cell BK149.out 1).trans rfl;have hcz8_2:w7.cell? ⟨gb149,2,none⟩ = some (.slice A0_2 l0_2.length c0_2):=(blk_cell BK149.out 2).trans rfl;have hfz8_0:=blk_frozen BK149.out 0;have hfz8_1:=blk_frozen BK149.out 1;have hfz8_2:=blk_frozen BK149.out 2))
    go_ret
    exact ⟨by first | rfl | (simp [errW_none,errW_some] <;> rfl) | (simp [*,errW_none,errW_some] <;> rfl),by repeat (first | (with_reducible first | exact HB.out | apply below_alloc | apply pw_below_drewN | apply below_drew1 | refine below_set ?_ GE149.out) | exact HB.out)⟩
  ·rw [if_neg c3] at H
   have c3b0:decide (0 ≤ a0_1) = false:=decide_eq_false c3
   clear c3
   obtain rfl:=Option.some.inj H
   go_enter Tryd.func43,Tryd.ntmps43
   go_wp2_with (first | ((with_reducible refine gate_dst (N:=1) rfl ?_);(try (refine gate_guard (by rfl) ?_;dsimp only));refine box_event ?hg (N:=1) ?hd (cs:=#[.int .i64 a0_0,.int .i64 a0_1,.slice A0_2 l0_2.length c0_2]) (t:=25) ?hr ?_;(case hd=>rfl);(case hg=>rfl);(case hr=>first | (go_simp;done) | (go_simp;rfl));intro gb149 hg w9 hbox hb;have n0_:=Aside0.mk (below_step (by repeat (first | (with_reducible first | exact HB.out | apply below_alloc | apply pw_below_drewN | apply below_drew1) | exact HB.out)) hb);have n1_:=Aside0.mk (hbox);have n2_:=Aside0.mk ((by rw [hg];exact (below_size (by repeat (first | (with_reducible first | exact HB.out | apply below_alloc | apply pw_below_drewN | apply below_drew1) | exact HB.out))):w.heap.size ≤ gb149));have n3_:=Aside0.mk ((by rw [hg];exact (below_size (by repeat (first | (with_reducible first | exact HB.out | apply below_alloc | apply pw_below_drewN | apply below_drew1) | exact HB.out))):w.heap.size ≤ gb149));clear HB;have HB:=n0_;have BK149:=n1_;have GW149:=n2_;have GE149:=n3_;clear n0_ n1_ n2_ n3_;clear hb hbox hg;have hcz10_0:w9.cell? ⟨gb149,0,none⟩ = some (.int .i64 a0_0):=(blk_cell BK149.out 0).trans rfl;have hcz10_1:w9.cell? ⟨gb149,1,none⟩ = some (.int .i64 a0_1):=(blk_cell BK149.out 1).trans rfl;have hcz10_2:w9.cell? ⟨gb149,2,none⟩ = some (.slice A0_2 l0_2.length c0_2):=(blk_cell BK149.out 2).trans rfl;have hfz10_0:=blk_frozen BK149.out 0;have hfz10_1:=blk_frozen BK149.out 1;have hfz10_2:=blk_frozen BK149.out 2))
   go_ret
   exact ⟨by first | rfl | (simp [errW_none,errW_some] <;> rfl) | (simp [*,errW_none,errW_some] <;> rfl),by repeat (first | (with_reducible first | exact HB.out | apply below_alloc | apply pw_below_drewN | apply below_drew1 | refine below_set ?_ GE149.out) | exact HB.out)⟩
 ·rw [if_neg c2] at H
  have c2b0:(a0_0 == 0) = false:=beq_eq_false_iff_ne.mpr c2
  have c2b1:(a0_0 != 0) = true:=bne_iff_ne.mpr c2
  have HC11:=Aside0.mk H
  clear H
  go_enter Tryd.func43,Tryd.ntmps43
  go_upto_if 21 with (first | ((with_reducible refine gate_dst (N:=1) rfl ?_);(try (refine gate_guard (by rfl) ?_;dsimp only));refine box_event ?hg (N:=1) ?hd (cs:=#[.int .i64 a0_0,.int .i64 a0_1,.slice A0_2 l0_2.length c0_2]) (t:=25) ?hr ?_;(case hd=>rfl);(case hg=>rfl);(case hr=>first | (go_simp;done) | (go_simp;rfl));intro gb149 hg w12 hbox hb;have n0_:=Aside0.mk (below_step (by repeat (first | (with_reducible first | exact HB.out | apply below_alloc | apply pw_below_drewN | apply below_drew1) | exact HB.out)) hb);have n1_:=Aside0.mk (hbox);have n2_:=Aside0.mk ((by rw [hg];exact (below_size (by repeat (first | (with_reducible first | exact HB.out | apply below_alloc | apply pw_below_drewN | apply below_drew1) | exact HB.out))):w.heap.size ≤ gb149));have n3_:=Aside0.mk ((by rw [hg];exact (below_size (by repeat (first | (with_reducible first | exact HB.out | apply below_alloc | apply pw_below_drewN | apply below_drew1) | exact HB.out))):w.heap.size ≤ gb149));clear HB;have HB:=n0_;have BK149:=n1_;have GW149:=n2_;have GE149:=n3_;clear n0_ n1_ n2_ n3_;clear hb hbox hg;have hcz13_0:w12.cell? ⟨gb149,0,none⟩ = some (.int .i64 a0_0):=(blk_cell BK149.out 0).trans rfl;have hcz13_1:w12.cell? ⟨gb149,1,none⟩ = some (.int .i64 a0_1):=(blk_cell BK149.out 1).trans rfl;have hcz13_2:w12.cell? ⟨gb149,2,none⟩ = some (.slice A0_2 l0_2.length c0_2):=(blk_cell BK149.out 2).trans rfl;have hfz13_0:=blk_frozen BK149.out 0;have hfz13_1:=blk_frozen BK149.out 1;have hfz13_2:=blk_frozen BK149.out 2))
  (try simp only [Act.put,List.setIfInBounds_toArray,List.set_cons_zero,List.set_cons_succ])
  go_cut [21] (fun v21 wc=>∃ (kq:Nat) (x21_10:Bool),v21 = .bool x21_10∧Aside0 (impl_sealShape.j0 kq x21_10 a0_0 a0_1 l0_2 = some r)∧Aside0 (kq ≤ k)∧Aside0 (wc.heap[gb149]? = some (.cells #[.int .i64 a0_0,.int .i64 a0_1,(.slice A0_2 l0_2.length c0_2)] 25 (0,0)))∧Aside0 (Below w.heap.size w wc))
  case first =>
   have H:=HC11.out
   clear HC11
   by_cases c14:a0_0 = 1
   ·rw [if_pos c14] at H
    have c14b0:(a0_0 == 1) = true:=beq_iff_eq.mpr c14
    have c14b1:(a0_0 != 1) = false:=bne_eq_false_iff_eq.mpr c14
    clear c14
    (first | rw [c14b0] | (simp only [i64_w,i32_w];rw [c14b0]) | skip)
    have H':=Aside0.mk H
    clear H
    go_wp2
    go_meet
    case rel=>exact ⟨_,((a0_0 == 1)),(by first | rfl | (simp;done) | (simp [*];done)),H',⟨by first | omega | exact Nat.le_refl _⟩,⟨by (with_reducible repeat (first | refine blk_drewN ?_ _ | refine blk_drew ?_ | refine blk_alloc ?_ _));exact BK149.out⟩,⟨by repeat (first | (with_reducible first | exact HB.out | apply below_alloc | apply pw_below_drewN | apply below_drew1 | refine below_set ?_ GE149.out) | exact HB.out)⟩⟩
   ·rw [if_neg c14] at H
    have c14b0:(a0_0 == 1) = false:=beq_eq_false_iff_ne.mpr c14
    have c14b1:(a0_0 != 1) = true:=bne_iff_ne.mpr c14
    (first | rw [c14b0] | (simp only [i64_w,i32_w];rw [c14b0]) | skip)
    have H':=Aside0.mk H
    clear H
    go_wp2
    go_meet
    case rel=>exact ⟨_,((a0_0 == 2)),(by first | rfl | (simp;done) | (simp [*];done)),H',⟨by first | omega | exact Nat.le_refl _⟩,⟨by (with_reducible repeat (first | refine blk_drewN ?_ _ | refine blk_drew ?_ | refine blk_alloc ?_ _));exact BK149.out⟩,⟨by repeat (first | (with_reducible first | exact HB.out | apply below_alloc | apply pw_below_drewN | apply below_drew1 | refine below_set ?_ GE149.out) | exact HB.out)⟩⟩
  case rest =>
   clear HC11
   try clear c1
   try clear c2
   try clear c2b0
   try clear c2b1
   try clear p2
   try clear c3
   try clear c3b0
   try clear c4
   try clear c4b0
   try clear c14
   try clear c14b0
   try clear c14b1
   try clear hcz10_0
   try clear hcz10_1
   try clear hcz10_2
   try clear hcz13_0
   try clear hcz13_1
   try clear hcz13_2
   try clear hcz6_0
   try clear hcz6_1
   try clear hcz6_2
   try clear hcz8_0
   try clear hcz8_1
   try clear hcz8_2
   try clear hfz10_0
   try clear hfz10_1
   try clear hfz10_2
   try clear hfz13_0
   try clear hfz13_1
   try clear hfz13_2
   try clear hfz6_0
   try clear hfz6_1
   try clear hfz6_2
   try clear hfz8_0
   try clear hfz8_1
   try clear hfz8_2
   obtain ⟨kq,x21_10,rfl,HA,HJ10,BK149,HB⟩:=hcut
   cases kq with
   | zero=>exact absurd HA.out (by simp [impl_sealShape.j0])
   | succ kj10 =>
    have H:=HA.out
    clear HA
    simp only [impl_sealShape.j0] at H
    by_cases c15:x21_10 = true
    ·subst c15
     have H1:(if a0_1 = 0 then (if (l0_2.length:Int) = 2 then (if 0 < (l0_2.length:Int) then ((impl_sealShape.f kj10 ((rd_T25 l0_2 0).f0) ((rd_T25 l0_2 0).f1) ((rd_T25 l0_2 0).f2)).bind fun t151=>(if t151 = true then (if 1 < (l0_2.length:Int) then ((impl_sealShape.f kj10 ((rd_T25 l0_2 1).f0) ((rd_T25 l0_2 1).f1) ((rd_T25 l0_2 1).f2)).bind fun t153=>(some t153)) else (none)) else (some false))) else (none)) else (some false)) else (some false)) = some r:=by rw [if_pos rfl] at H;exact H
     clear H
     have H:=H1
     clear H1
     by_cases c16:a0_1 = 0
     ·rw [if_pos c16] at H
      have c16b0:(a0_1 == 0) = true:=beq_iff_eq.mpr c16
      have c16b1:(a0_1 != 0) = false:=bne_eq_false_iff_eq.mpr c16
      clear c16
      by_cases c17:(l0_2.length:Int) = 2
      ·rw [if_pos c17] at H
       have c17b0:((l0_2.length:Int) == 2) = true:=beq_iff_eq.mpr c17
       have c17b1:((l0_2.length:Int) != 2) = false:=bne_eq_false_iff_eq.mpr c17
       clear c17
       by_cases c18:0 < (l0_2.length:Int)
       ·rw [if_pos c18] at H
        have c18b0:decide (0 < (l0_2.length:Int)) = true:=decide_eq_true c18
        have c18b1:decide (0 < l0_2.length) = true:=decide_eq_true (by omega)
        clear c18
        replace H:=Option.bind_eq_some_iff.mp H
        obtain ⟨t151,A190,H⟩:=H
        replace H:(if t151 = true then (if 1 < (l0_2.length:Int) then ((impl_sealShape.f kj10 ((rd_T25 l0_2 1).f0) ((rd_T25 l0_2 1).f1) ((rd_T25 l0_2 1).f2)).bind fun t153=>(some t153)) else (none)) else (some false)) = some r:=H
        have A19:=Aside0.mk A190
        clear A190
        by_cases c20:t151 = true
        ·subst c20
         have H1:(if 1 < (l0_2.length:Int) then ((impl_sealShape.f kj10 ((rd_T25 l0_2 1).f0) ((rd_T25 l0_2 1).f1) ((rd_T25 l0_2 1).f2)).bind fun t153=>(some t153)) else (none)) = some r:=by rw [if_pos rfl] at H;exact H
         clear H
         have H:=H1
         clear H1
         by_cases c21:1 < (l0_2.length:Int)
         ·rw [if_pos c21] at H
          have c21b0:decide (1 < (l0_2.length:Int)) = true:=decide_eq_true c21
          have c21b1:decide (1 < l0_2.length) = true:=decide_eq_true (by omega)
          clear c21
          replace H:=Option.bind_eq_some_iff.mp H
          obtain ⟨t153,A220,H⟩:=H
          replace H:(some t153) = some r:=H
          have A22:=Aside0.mk A220
          clear A220
          obtain rfl:=Option.some.inj H
          have hcz23_0:wc.cell? ⟨gb149,0,none⟩ = some (.int .i64 a0_0):=(blk_cell BK149.out 0).trans rfl
          have hcz23_1:wc.cell? ⟨gb149,1,none⟩ = some (.int .i64 a0_1):=(blk_cell BK149.out 1).trans rfl
          have hcz23_2:wc.cell? ⟨gb149,2,none⟩ = some (.slice A0_2 l0_2.length c0_2):=(blk_cell BK149.out 2).trans rfl
          have hfz23_0:=blk_frozen BK149.out 0
          have hfz23_1:=blk_frozen BK149.out 1
          have hfz23_2:=blk_frozen BK149.out 2
          have p150:0 ≤ (0:Int):=(by omega)
          have q150:0 < (l0_2.length:Int):=of_decide_eq_true (by first | (with_reducible assumption) | assumption)
          obtain ⟨ad150,A150_2,c150_2,e150,hx150_0,hx150_1,hx150_2,hl150_2,hi150_2⟩:=at_T25 HR0_2.out 0 p150 q150
          cases e150
          have qi150:(0 < l0_2.length) = True:=eq_true (by omega)
          (try rw [show ((0:Int)).toNat = 0 from rfl] at hx150_0)
          (try rw [show 0 * 3 = 0 from rfl] at hx150_0)
          (try rw [Addr.add_zero'] at hx150_0)
          (try rw [show ((0:Int)).toNat = 0 from rfl] at hx150_1)
          (try rw [show 0 * 3 = 0 from rfl] at hx150_1)
          (try rw [Addr.add_zero'] at hx150_1)
          (try rw [show ((0:Int)).toNat = 0 from rfl] at hx150_2)
          (try rw [show 0 * 3 = 0 from rfl] at hx150_2)
          (try rw [Addr.add_zero'] at hx150_2)
          replace hx150_0:=(HB.out.cell (World.block_lt_of_cell? w _ hx150_0)).trans hx150_0
          replace hx150_1:=(HB.out.cell (World.block_lt_of_cell? w _ hx150_1)).trans hx150_1
          replace hx150_2:=(HB.out.cell (World.block_lt_of_cell? w _ hx150_2)).trans hx150_2
          have HR150_2:=Aside0.mk hi150_2
          have HC150_2:=Aside0.mk hl150_2
          clear hi150_2 hl150_2
          replace p150:=eq_true p150
          replace q150:=eq_true q150
          go_wp2_with (first | (go_at_call 43;(with_reducible refine (ih kj10 (by have:=HJ10.out;omega) ((rd_T25 l0_2 0).f0) ((rd_T25 l0_2 0).f1) _ _ ((rd_T25 l0_2 0).f2) true _ ?side1 ?side2 A19.out).mono ?_);(case side1=>repeat (first | exact (Kd.C_below HR150_2.out HB.out) | (with_reducible refine Kd.C_alloc ?_ _) | (with_reducible refine Kd.C_drewN ?_ _) | (with_reducible refine Kd.C_drew ?_)));(case side2=>exact HC150_2.out);rintro e w24 ⟨rfl,hb⟩;have n0_:=Aside0.mk (blk_below (g:=gb149) (o:=.cells #[.int .i64 a0_0,.int .i64 a0_1,.slice (some ad150) l0_2.length c0_2] 25 (0,0)) (by (with_reducible repeat (first | refine blk_drewN ?_ _ | refine blk_drew ?_ | refine blk_alloc ?_ _));exact BK149.out) hb);have n1_:=Aside0.mk (below_step (by repeat (first | (with_reducible first | exact HB.out | apply below_alloc | apply pw_below_drewN | apply below_drew1 | refine below_set ?_ GE149.out) | exact HB.out)) hb);clear BK149;clear HB;have BK149:=n0_;have HB:=n1_;clear n0_ n1_;(try clear hb);(try clear hb2);(try clear hk);(try clear hi);have hcz25_0:w24.cell? ⟨gb149,0,none⟩ = some (.int .i64 a0_0):=(blk_cell BK149.out 0).trans rfl;have hcz25_1:w24.cell? ⟨gb149,1,none⟩ = some (.int .i64 a0_1):=(blk_cell BK149.out 1).trans rfl;have hcz25_2:w24.cell? ⟨gb149,2,none⟩ = some (.slice (some ad150) l0_2.length c0_2):=(blk_cell BK149.out 2).trans rfl;have hfz25_0:=blk_frozen BK149.out 0;have hfz25_1:=blk_frozen BK149.out 1;have hfz25_2:=blk_frozen BK149.out 2;have p152:0 ≤ (1:Int):=(by omega);have q152:1 < (l0_2.length:Int):=of_decide_eq_true (by first | (with_reducible assumption) | assumption);obtain ⟨ad152,A152_2,c152_2,e152,hx152_0,hx152_1,hx152_2,hl152_2,hi152_2⟩:=at_T25 HR0_2.out 1 p152 q152;obtain rfl:ad150 = ad152:=(by injection e152);(try simp only [show (1:Int).toNat = 1 from rfl,Nat.reduceMul,Nat.reduceEqDiff,Go.Addr.add,↓reduceIte] at hx152_0);(try simp only [show (1:Int).toNat = 1 from rfl,Nat.reduceMul,Nat.reduceEqDiff,Go.Addr.add,↓reduceIte] at hx152_1);(try simp only [show (1:Int).toNat = 1 from rfl,Nat.reduceMul,Nat.reduceEqDiff,Go.Addr.add,↓reduceIte] at hx152_2);have qi152:(1 < l0_2.length) = True:=eq_true (by omega);(try rw [show ((1:Int)).toNat = 1 from rfl] at hx152_0);(try rw [show 1 * 3 = 3 from rfl] at hx152_0);(try rw [show ((1:Int)).toNat = 1 from rfl] at hx152_1);(try rw [show 1 * 3 = 3 from rfl] at hx152_1);(try rw [show ((1:Int)).toNat = 1 from rfl] at hx152_2);(try rw [show 1 * 3 = 3 from rfl] at hx152_2);replace hx152_0:=(HB.out.cell (World.block_lt_of_cell? w _ hx152_0)).trans hx152_0;replace hx152_1:=(HB.out.cell (World.block_lt_of_cell? w _ hx152_1)).trans hx152_1;replace hx152_2:=(HB.out.cell (World.block_lt_of_cell? w _ hx152_2)).trans hx152_2;have HR152_2:=Aside0.mk hi152_2;have HC152_2:=Aside0.mk hl152_2;clear hi152_2 hl152_2;replace p152:=eq_true p152;replace q152:=eq_true q152) | (go_at_call 43;(with_reducible refine (ih kj10 (by have:=HJ10.out;omega) ((rd_T25 l0_2 1).f0) ((rd_T25 l0_2 1).f1) _ _ ((rd_T25 l0_2 1).f2) t153 _ ?side1 ?side2 A22.out).mono ?_);(case side1=>repeat (first | exact (Kd.C_below HR152_2.out HB.out) | (with_reducible refine Kd.C_alloc ?_ _) | (with_reducible refine Kd.C_drewN ?_ _) | (with_reducible refine Kd.C_drew ?_)));(case side2=>exact HC152_2.out);rintro e w26 ⟨rfl,hb⟩;have n0_:=Aside0.mk (blk_below (g:=gb149) (o:=.cells #[.int .i64 a0_0,.int .i64 a0_1,.slice (some ad150) l0_2.length c0_2] 25 (0,0)) (by (with_reducible repeat (first | refine blk_drewN ?_ _ | refine blk_drew ?_ | refine blk_alloc ?_ _));exact BK149.out) hb);have n1_:=Aside0.mk (below_step (by repeat (first | (with_reducible first | exact HB.out | apply below_alloc | apply pw_below_drewN | apply below_drew1 | refine below_set ?_ GE149.out) | exact HB.out)) hb);clear BK149;clear HB;have BK149:=n0_;have HB:=n1_;clear n0_ n1_;(try clear hb);(try clear hb2);(try clear hk);(try clear hi)))
          go_ret
          exact ⟨by first | rfl | (simp [errW_none,errW_some] <;> rfl) | (simp [*,errW_none,errW_some] <;> rfl),by repeat (first | (with_reducible first | exact HB.out | apply below_alloc | apply pw_below_drewN | apply below_drew1 | refine below_set ?_ GE149.out) | exact HB.out)⟩
         ·rw [if_neg c21] at H
          exact absurd H (by simp)
        ·replace c20:=Bool.eq_false_iff.mpr c20
         subst c20
         have H1:(some false) = some r:=by rw [if_neg (show ¬ (false = true) by decide)] at H;exact H
         clear H
         have H:=H1
         clear H1
         obtain rfl:=Option.some.inj H
         have hcz27_0:wc.cell? ⟨gb149,0,none⟩ = some (.int .i64 a0_0):=(blk_cell BK149.out 0).trans rfl
         have hcz27_1:wc.cell? ⟨gb149,1,none⟩ = some (.int .i64 a0_1):=(blk_cell BK149.out 1).trans rfl
         have hcz27_2:wc.cell? ⟨gb149,2,none⟩ = some (.slice A0_2 l0_2.length c0_2):=(blk_cell BK149.out 2).trans rfl
         have hfz27_0:=blk_frozen BK149.out 0
         have hfz27_1:=blk_frozen BK149.out 1
         have hfz27_2:=blk_frozen BK149.out 2
         have p150:0 ≤ (0:Int):=(by omega)
         have q150:0 < (l0_2.length:Int):=of_decide_eq_true (by first | (with_reducible assumption) | assumption)
         obtain ⟨ad150,A150_2,c150_2,e150,hx150_0,hx150_1,hx150_2,hl150_2,hi150_2⟩:=at_T25 HR0_2.out 0 p150 q150
         cases e150
         have qi150:(0 < l0_2.length) = True:=eq_true (by omega)
         (try rw [show ((0:Int)).toNat = 0 from rfl] at hx150_0)
         (try rw [show 0 * 3 = 0 from rfl] at hx150_0)
         (try rw [Addr.add_zero'] at hx150_0)
         (try rw [show ((0:Int)).toNat = 0 from rfl] at hx150_1)
         (try rw [show 0 * 3 = 0 from rfl] at hx150_1)
         (try rw [Addr.add_zero'] at hx150_1)
         (try rw [show ((0:Int)).toNat = 0 from rfl] at hx150_2)
         (try rw [show 0 * 3 = 0 from rfl] at hx150_2)
         (try rw [Addr.add_zero'] at hx150_2)
         replace hx150_0:=(HB.out.cell (World.block_lt_of_cell? w _ hx150_0)).trans hx150_0
         replace hx150_1:=(HB.out.cell (World.block_lt_of_cell? w _ hx150_1)).trans hx150_1
         replace hx150_2:=(HB.out.cell (World.block_lt_of_cell? w _ hx150_2)).trans hx150_2
         have HR150_2:=Aside0.mk hi150_2
         have HC150_2:=Aside0.mk hl150_2
         clear hi150_2 hl150_2
         replace p150:=eq_true p150
         replace q150:=eq_true q150
         go_wp2_with (first | (go_at_call 43;(with_reducible refine (ih kj10 (by have:=HJ10.out;omega) ((rd_T25 l0_2 0).f0) ((rd_T25 l0_2 0).f1) _ _ ((rd_T25 l0_2 0).f2) false _ ?side1 ?side2 A19.out).mono ?_);(case side1=>repeat (first | exact (Kd.C_below HR150_2.out HB.out) | (with_reducible refine Kd.C_alloc ?_ _) | (with_reducible refine Kd.C_drewN ?_ _) | (with_reducible refine Kd.C_drew ?_)));(case side2=>exact HC150_2.out);rintro e w28 ⟨rfl,hb⟩;have n0_:=Aside0.mk (blk_below (g:=gb149) (o:=.cells #[.int .i64 a0_0,.int .i64 a0_1,.slice (some ad150) l0_2.length c0_2] 25 (0,0)) (by (with_reducible repeat (first | refine blk_drewN ?_ _ | refine blk_drew ?_ | refine blk_alloc ?_ _));exact BK149.out) hb);have n1_:=Aside0.mk (below_step (by repeat (first | (with_reducible first | exact HB.out | apply below_alloc | apply pw_below_drewN | apply below_drew1 | refine below_set ?_ GE149.out) | exact HB.out)) hb);clear BK149;clear HB;have BK149:=n0_;have HB:=n1_;clear n0_ n1_;(try clear hb);(try clear hb2);(try clear hk);(try clear hi)))
         go_ret
         exact ⟨by first | rfl | (simp [errW_none,errW_some] <;> rfl) | (simp [*,errW_none,errW_some] <;> rfl),by repeat (first | (with_reducible first | exact HB.out | apply below_alloc | apply pw_below_drewN | apply below_drew1 | refine below_set ?_ GE149.out) | exact HB.out)⟩
       ·rw [if_neg c18] at H
        exact absurd H (by simp)
      ·rw [if_neg c17] at H
       have c17b0:((l0_2.length:Int) == 2) = false:=beq_eq_false_iff_ne.mpr c17
       have c17b1:((l0_2.length:Int) != 2) = true:=bne_iff_ne.mpr c17
       obtain rfl:=Option.some.inj H
       have hcz29_0:wc.cell? ⟨gb149,0,none⟩ = some (.int .i64 a0_0):=(blk_cell BK149.out 0).trans rfl
       have hcz29_1:wc.cell? ⟨gb149,1,none⟩ = some (.int .i64 a0_1):=(blk_cell BK149.out 1).trans rfl
       have hcz29_2:wc.cell? ⟨gb149,2,none⟩ = some (.slice A0_2 l0_2.length c0_2):=(blk_cell BK149.out 2).trans rfl
       have hfz29_0:=blk_frozen BK149.out 0
       have hfz29_1:=blk_frozen BK149.out 1
       have hfz29_2:=blk_frozen BK149.out 2
       go_wp2
       go_ret
       exact ⟨by first | rfl | (simp [errW_none,errW_some] <;> rfl) | (simp [*,errW_none,errW_some] <;> rfl),by repeat (first | (with_reducible first | exact HB.out | apply below_alloc | apply pw_below_drewN | apply below_drew1 | refine below_set ?_ GE149.out) | exact HB.out)⟩
     ·rw [if_neg c16] at H
      have c16b0:(a0_1 == 0) = false:=beq_eq_false_iff_ne.mpr c16
      have c16b1:(a0_1 != 0) = true:=bne_iff_ne.mpr c16
      obtain rfl:=Option.some.inj H
      have hcz30_0:wc.cell? ⟨gb149,0,none⟩ = some (.int .i64 a0_0):=(blk_cell BK149.out 0).trans rfl
      have hcz30_1:wc.cell? ⟨gb149,1,none⟩ = some (.int .i64 a0_1):=(blk_cell BK149.out 1).trans rfl
      have hcz30_2:wc.cell? ⟨gb149,2,none⟩ = some (.slice A0_2 l0_2.length c0_2):=(blk_cell BK149.out 2).trans rfl
      have hfz30_0:=blk_frozen BK149.out 0
      have hfz30_1:=blk_frozen BK149.out 1
      have hfz30_2:=blk_frozen BK149.out 2
      go_wp2
      go_ret
      exact ⟨by first | rfl | (simp [errW_none,errW_some] <;> rfl) | (simp [*,errW_none,errW_some] <;> rfl),by repeat (first | (with_reducible first | exact HB.out | apply below_alloc | apply pw_below_drewN | apply below_drew1 | refine below_set ?_ GE149.out) | exact HB.out)⟩
    ·replace c15:=Bool.eq_false_iff.mpr c15
     subst c15
     have H1:(some false) = some r:=by rw [if_neg (show ¬ (false = true) by decide)] at H;exact H
     clear H
     have H:=H1
     clear H1
     obtain rfl:=Option.some.inj H
     go_wp2
     go_ret
     exact ⟨by first | rfl | (simp [errW_none,errW_some] <;> rfl) | (simp [*,errW_none,errW_some] <;> rfl),by repeat (first | (with_reducible first | exact HB.out | apply below_alloc | apply pw_below_drewN | apply below_drew1 | refine below_set ?_ GE149.out) | exact HB.out)⟩
def impl_SealOk.f (k:Nat) (a0_0:Int) (a0_1:Int) (l0_2:List (S25)):Option (Bool):=(impl_sealNodes.f k a0_0 a0_1 l0_2 12).bind fun t155=>(if t155 ≤ 12 then ((impl_sealShape.f k a0_0 a0_1 l0_2).bind fun t156=>(some t156)) else (some false))
theorem impl_SealOk.mono:∀ a0 a1 a2 k,LeO (impl_SealOk.f k a0 a1 a2) (impl_SealOk.f (k + 1) a0 a1 a2):=by
 intro a0 a1 a2 k
 unfold impl_SealOk.f
 repeat' first
   | (with_reducible exact impl_sealNodes.mono _ _ _ _ _)
   | (with_reducible exact impl_sealShape.mono _ _ _ _)
   | (with_reducible exact LeO.refl _)
   | (with_reducible exact LeO.none _)
   | (with_reducible refine LeO.ite ?_ ?_)
   | (with_reducible refine LeO.bind ?_ (fun _=>?_))
   | exact impl_sealNodes.mono _ _ _ _ _
   | exact impl_sealShape.mono _ _ _ _
   | exact LeO.none _
   | refine LeO.ite ?_ ?_
   | refine LeO.bind ?_ (fun _=>?_)
set_option maxHeartbeats 8000000 in
set_option maxRecDepth 100000 in
theorem impl_SealOk.calls (k:Nat) (a0_0:Int) (a0_1:Int) (A0_2:Option Addr) (c0_2:Nat) (l0_2:List (S25)) (r:Bool) (w:World) (hr0_2:Kd.C k25 w A0_2 l0_2.length l0_2) (hc0_2:l0_2.length ≤ c0_2) (h:impl_SealOk.f k a0_0 a0_1 l0_2 = some r) :
  Calls Tryd.prog 14 #[.agg #[.int .i64 a0_0,.int .i64 a0_1,.slice A0_2 l0_2.length c0_2]] w fun e w'=>e = .returned (.bool r)∧Below w.heap.size w w':=by
 have hu25:=Tryd.underlying25
 have HR0_2:=Aside0.mk hr0_2
 have HC0_2:=Aside0.mk hc0_2
 clear hr0_2 hc0_2
 have HB:=Aside0.mk (Below.refl w.heap.size w)
 have H:((impl_sealNodes.f k a0_0 a0_1 l0_2 12).bind fun t155=>(if t155 ≤ 12 then ((impl_sealShape.f k a0_0 a0_1 l0_2).bind fun t156=>(some t156)) else (some false))) = some r:=h
 clear h
 replace H:=Option.bind_eq_some_iff.mp H
 obtain ⟨t155,A20,H⟩:=H
 replace H:(if t155 ≤ 12 then ((impl_sealShape.f k a0_0 a0_1 l0_2).bind fun t156=>(some t156)) else (some false)) = some r:=H
 have A2:=Aside0.mk A20
 clear A20
 by_cases c3:t155 ≤ 12
 ·rw [if_pos c3] at H
  have c3b0:decide (t155 ≤ 12) = true:=decide_eq_true c3
  clear c3
  replace H:=Option.bind_eq_some_iff.mp H
  obtain ⟨t156,A40,H⟩:=H
  replace H:(some t156) = some r:=H
  have A4:=Aside0.mk A40
  clear A40
  obtain rfl:=Option.some.inj H
  go_enter Tryd.func14,Tryd.ntmps14
  go_wp2_with (first | ((with_reducible refine gate_dst (N:=1) rfl ?_);refine box_event ?hg (N:=1) ?hd (cs:=#[.int .i64 a0_0,.int .i64 a0_1,.slice A0_2 l0_2.length c0_2]) (t:=25) ?hr ?_;(case hd=>rfl);(case hg=>rfl);(case hr=>first | (go_simp;done) | (go_simp;rfl));intro gb154 hg w5 hbox hb;have n0_:=Aside0.mk (below_step (by repeat (first | (with_reducible first | exact HB.out | apply below_alloc | apply pw_below_drewN | apply below_drew1) | exact HB.out)) hb);have n1_:=Aside0.mk (hbox);have n2_:=Aside0.mk ((by rw [hg];exact (below_size (by repeat (first | (with_reducible first | exact HB.out | apply below_alloc | apply pw_below_drewN | apply below_drew1) | exact HB.out))):w.heap.size ≤ gb154));have n3_:=Aside0.mk ((by rw [hg];exact (below_size (by repeat (first | (with_reducible first | exact HB.out | apply below_alloc | apply pw_below_drewN | apply below_drew1) | exact HB.out))):w.heap.size ≤ gb154));clear HB;have HB:=n0_;have BK154:=n1_;have GW154:=n2_;have GE154:=n3_;clear n0_ n1_ n2_ n3_;clear hb hbox hg;have hcz6_0:w5.cell? ⟨gb154,0,none⟩ = some (.int .i64 a0_0):=(blk_cell BK154.out 0).trans rfl;have hcz6_1:w5.cell? ⟨gb154,1,none⟩ = some (.int .i64 a0_1):=(blk_cell BK154.out 1).trans rfl;have hcz6_2:w5.cell? ⟨gb154,2,none⟩ = some (.slice A0_2 l0_2.length c0_2):=(blk_cell BK154.out 2).trans rfl;have hfz6_0:=blk_frozen BK154.out 0;have hfz6_1:=blk_frozen BK154.out 1;have hfz6_2:=blk_frozen BK154.out 2) | ((with_reducible refine gate_callee (f:=42) rfl ?_);refine goesL_ (some 4) rfl rfl Tryd.func42 (by kernel_rfl) rfl #[.agg #[.int .i64 a0_0,.int .i64 a0_1,.slice A0_2 l0_2.length c0_2],.int .i64 12] rfl (by (try simp only [List.map_toArray,List.map_cons,List.map_nil]);first | done | rfl | (simp only [List.length_drop,List.length_take];rfl)) ?_;(with_reducible refine (impl_sealNodes.calls k a0_0 a0_1 _ _ l0_2 12 t155 _ ?side1 ?side2 A2.out).mono ?_);(case side1=>repeat (first | exact (Kd.C_below HR0_2.out HB.out) | (with_reducible refine Kd.C_alloc ?_ _) | (with_reducible refine Kd.C_drewN ?_ _) | (with_reducible refine Kd.C_drew ?_)));(case side2=>exact HC0_2.out);rintro e w7 ⟨rfl,hb⟩;refine ⟨_,rfl,?_⟩;have n0_:=Aside0.mk (blk_below (g:=gb154) (o:=.cells #[.int .i64 a0_0,.int .i64 a0_1,.slice A0_2 l0_2.length c0_2] 25 (0,0)) (by (with_reducible repeat (first | refine blk_drewN ?_ _ | refine blk_drew ?_ | refine blk_alloc ?_ _));exact BK154.out) hb);have n1_:=Aside0.mk (below_step (by repeat (first | (with_reducible first | exact HB.out | apply below_alloc | apply pw_below_drewN | apply below_drew1 | refine below_set ?_ GE154.out) | exact HB.out)) hb);clear BK154;clear HB;have BK154:=n0_;have HB:=n1_;clear n0_ n1_;(try clear hb);(try clear hb2);(try clear hk);(try clear hi);have hcz8_0:w7.cell? ⟨gb154,0,none⟩ = some (.int .i64 a0_0):=(blk_cell BK154.out 0).trans rfl;have hcz8_1:w7.cell? ⟨gb154,1,none⟩ = some (.int .i64 a0_1):=(blk_cell BK154.out 1).trans rfl;have hcz8_2:w7.cell? ⟨gb154,2,none⟩ = some (.slice A0_2 l0_2.length c0_2):=(blk_cell BK154.out 2).trans rfl;have hfz8_0:=blk_frozen BK154.out 0;have hfz8_1:=blk_frozen BK154.out 1;have hfz8_2:=blk_frozen BK154.out 2) | (go_at_call 43;(with_reducible refine (impl_sealShape.calls k a0_0 a0_1 _ _ l0_2 t156 _ ?side1 ?side2 A4.out).mono ?_);(case side1=>repeat (first | exact (Kd.C_below HR0_2.out HB.out) | (with_reducible refine Kd.C_alloc ?_ _) | (with_reducible refine Kd.C_drewN ?_ _) | (with_reducible refine Kd.C_drew ?_)));(case side2=>exact HC0_2.out);rintro e w9 ⟨rfl,hb⟩;have n0_:=Aside0.mk (blk_below (g:=gb154) (o:=.cells #[.int .i64 a0_0,.int .i64 a0_1,.slice A0_2 l0_2.length c0_2] 25 (0,0)) (by (with_reducible repeat (first | refine blk_drewN ?_ _ | refine blk_drew ?_ | refine blk_alloc ?_ _));exact BK154.out) hb);have n1_:=Aside0.mk (below_step (by repeat (first | (with_reducible first | exact HB.out | apply below_alloc | apply pw_below_drewN | apply below_drew1 | refine below_set ?_ GE154.out) | exact HB.out)) hb);clear BK154;clear HB;have BK154:=n0_;have HB:=n1_;clear n0_ n1_;(try clear hb);(try clear hb2);(try clear hk);(try clear hi)))
  go_ret
  exact ⟨by first | rfl | (simp [errW_none,errW_some] <;> rfl) | (simp [*,errW_none,errW_some] <;> rfl),by repeat (first | (with_reducible first | exact HB.out | apply below_alloc | apply pw_below_drewN | apply below_drew1 | refine below_set ?_ GE154.out) | exact HB.out)⟩
 ·rw [if_neg c3] at H
  have c3b0:decide (t155 ≤ 12) = false:=decide_eq_false c3
  clear c3
  obtain rfl:=Option.some.inj H
  go_enter Tryd.func14,Tryd.ntmps14
  go_wp2_with (first | ((with_reducible refine gate_dst (N:=1) rfl ?_);refine box_event ?hg (N:=1) ?hd (cs:=#[.int .i64 a0_0,.int .i64 a0_1,.slice A0_2 l0_2.length c0_2]) (t:=25) ?hr ?_;(case hd=>rfl);(case hg=>rfl);(case hr=>first | (go_simp;done) | (go_simp;rfl));intro gb154 hg w10 hbox hb;have n0_:=Aside0.mk (below_step (by repeat (first | (with_reducible first | exact HB.out | apply below_alloc | apply pw_below_drewN | apply below_drew1) | exact HB.out)) hb);have n1_:=Aside0.mk (hbox);have n2_:=Aside0.mk ((by rw [hg];exact (below_size (by repeat (first | (with_reducible first | exact HB.out | apply below_alloc | apply pw_below_drewN | apply below_drew1) | exact HB.out))):w.heap.size ≤ gb154));have n3_:=Aside0.mk ((by rw [hg];exact (below_size (by repeat (first | (with_reducible first | exact HB.out | apply below_alloc | apply pw_below_drewN | apply below_drew1) | exact HB.out))):w.heap.size ≤ gb154));clear HB;have HB:=n0_;have BK154:=n1_;have GW154:=n2_;have GE154:=n3_;clear n0_ n1_ n2_ n3_;clear hb hbox hg;have hcz11_0:w10.cell? ⟨gb154,0,none⟩ = some (.int .i64 a0_0):=(blk_cell BK154.out 0).trans rfl;have hcz11_1:w10.cell? ⟨gb154,1,none⟩ = some (.int .i64 a0_1):=(blk_cell BK154.out 1).trans rfl;have hcz11_2:w10.cell? ⟨gb154,2,none⟩ = some (.slice A0_2 l0_2.length c0_2):=(blk_cell BK154.out 2).trans rfl;have hfz11_0:=blk_frozen BK154.out 0;have hfz11_1:=blk_frozen BK154.out 1;have hfz11_2:=blk_frozen BK154.out 2) | ((with_reducible refine gate_callee (f:=42) rfl ?_);refine goesL_ (some 4) rfl rfl Tryd.func42 (by kernel_rfl) rfl #[.agg #[.int .i64 a0_0,.int .i64 a0_1,.slice A0_2 l0_2.length c0_2],.int .i64 12] rfl (by (try simp only [List.map_toArray,List.map_cons,List.map_nil]);first | done | rfl | (simp only [List.length_drop,List.length_take];rfl)) ?_;(with_reducible refine (impl_sealNodes.calls k a0_0 a0_1 _ _ l0_2 12 t155 _ ?side1 ?side2 A2.out).mono ?_);(case side1=>repeat (first | exact (Kd.C_below HR0_2.out HB.out) | (with_reducible refine Kd.C_alloc ?_ _) | (with_reducible refine Kd.C_drewN ?_ _) | (with_reducible refine Kd.C_drew ?_)));(case side2=>exact HC0_2.out);rintro e w12 ⟨rfl,hb⟩;refine ⟨_,rfl,?_⟩;have n0_:=Aside0.mk (blk_below (g:=gb154) (o:=.cells #[.int .i64 a0_0,.int .i64 a0_1,.slice A0_2 l0_2.length c0_2] 25 (0,0)) (by (with_reducible repeat (first | refine blk_drewN ?_ _ | refine blk_drew ?_ | refine blk_alloc ?_ _));exact BK154.out) hb);have n1_:=Aside0.mk (below_step (by repeat (first | (with_reducible first | exact HB.out | apply below_alloc | apply pw_below_drewN | apply below_drew1 | refine below_set ?_ GE154.out) | exact HB.out)) hb);clear BK154;clear HB;have BK154:=n0_;have HB:=n1_;clear n0_ n1_;(try clear hb);(try clear hb2);(try clear hk);(try clear hi)))
  go_ret
  exact ⟨by first | rfl | (simp [errW_none,errW_some] <;> rfl) | (simp [*,errW_none,errW_some] <;> rfl),by repeat (first | (with_reducible first | exact HB.out | apply below_alloc | apply pw_below_drewN | apply below_drew1 | refine below_set ?_ GE154.out) | exact HB.out)⟩
def spec_l6In.f (a0:Int) (a1:Int) (a2:Int):Option (Bool):=if a0 ≥ a1 then (some (decide (a0 ≤ a2))) else (some false)
set_option maxHeartbeats 8000000 in
set_option maxRecDepth 100000 in
theorem spec_l6In.calls (a0:Int) (a1:Int) (a2:Int) (r:Bool) (w:World) (h:spec_l6In.f a0 a1 a2 = some r) :
  Calls Tryd.prog 44 #[.int .i64 a0,.int .i64 a1,.int .i64 a2] w fun e w'=>e = .returned (.bool r)∧Drawn0 w w':=by
 have H:(if a0 ≥ a1 then (some (decide (a0 ≤ a2))) else (some false)) = some r:=h
 clear h
 by_cases c4:a0 ≥ a1
 ·rw [if_pos c4] at H
  have c4b0:decide (a1 ≤ a0) = true:=decide_eq_true c4
  clear c4
  obtain rfl:=Option.some.inj H
  go_enter Tryd.func44,Tryd.ntmps44
  go_wp2
  go_ret
  exact ⟨by first | rfl | (simp;done) | (simp [*];done),by repeat (first | exact Drawn0.refl _ | apply Drawn0.step)⟩
 ·rw [if_neg c4] at H
  have c4b0:decide (a1 ≤ a0) = false:=decide_eq_false c4
  clear c4
  obtain rfl:=Option.some.inj H
  go_enter Tryd.func44,Tryd.ntmps44
  go_wp2
  go_ret
  exact ⟨by first | rfl | (simp;done) | (simp [*];done),by repeat (first | exact Drawn0.refl _ | apply Drawn0.step)⟩
mutual
def spec_l20Nodes.j0:Nat → Int → Bool → Int → Int → List (S25) → Option (Int)
 | 0,_,_,_,_,_=>none
 | k + 1,x3,x4,x158000,x158001,x158002=>(spec_l6In.f x158000 0 2).bind fun t159=>(if t159 = true then (if x4 = true then (spec_l20Nodes.j1 k x3 ((x158002.length:Int) != x3) x158000 x158001 x158002) else (spec_l20Nodes.j1 k x3 true x158000 x158001 x158002)) else (spec_l20Nodes.j1 k x3 true x158000 x158001 x158002))
def spec_l20Nodes.j1:Nat → Int → Bool → Int → Int → List (S25) → Option (Int)
 | 0,_,_,_,_,_=>none
 | k + 1,x3,x31,x158000,x158001,x158002=>if x31 = true then (some 0) else (spec_l20Nodes.l0 k x3 1 0 x158000 x158001 x158002)
def spec_l20Nodes.l0:Nat → Int → Int → Int → Int → Int → List (S25) → Option (Int)
 | 0,_,_,_,_,_,_=>none
 | k + 1,x3,x5,x6,x158000,x158001,x158002=>if x6 < x3 then (if 0 ≤ x6 then (if x6 < (x158002.length:Int) then ((spec_l20Nodes.f k ((rd_T25 x158002 x6).f0) ((rd_T25 x158002 x6).f1) ((rd_T25 x158002 x6).f2)).bind fun t161=>(if t161 = 0 then (some 0) else (spec_l20Nodes.l0 k x3 (mn 1000 (wrap64 (x5 + t161))) (wrap64 (x6 + 1)) x158000 x158001 x158002))) else (none)) else (none)) else (some x5)
def spec_l20Nodes.f:Nat → Int → Int → List (S25) → Option (Int)
 | 0,_,_,_=>none
 | k + 1,a0_0,a0_1,l0_2=>if a0_0 = 0 then ((spec_l6In.f a0_1 0 9).bind fun t158=>(spec_l20Nodes.j0 k 0 t158 a0_0 a0_1 l0_2)) else (spec_l20Nodes.j0 k 2 (a0_1 == 0) a0_0 a0_1 l0_2)
end
theorem spec_l20Nodes.mono_l:∀ k,(∀ y0 y1 y2,LeO (spec_l20Nodes.f k y0 y1 y2) (spec_l20Nodes.f (k + 1) y0 y1 y2))∧(∀ y0 y1 y2 y3 y4,LeO (spec_l20Nodes.j0 k y0 y1 y2 y3 y4) (spec_l20Nodes.j0 (k + 1) y0 y1 y2 y3 y4))∧(∀ y0 y1 y2 y3 y4,LeO (spec_l20Nodes.j1 k y0 y1 y2 y3 y4) (spec_l20Nodes.j1 (k + 1) y0 y1 y2 y3 y4))∧(∀ y0 y1 y2 y3 y4 y5,LeO (spec_l20Nodes.l0 k y0 y1 y2 y3 y4 y5) (spec_l20Nodes.l0 (k + 1) y0 y1 y2 y3 y4 y5))
 | 0=>⟨fun _ _ _ r h=>by simp [spec_l20Nodes.f] at h,fun _ _ _ _ _ r h=>by simp [spec_l20Nodes.j0] at h,fun _ _ _ _ _ r h=>by simp [spec_l20Nodes.j1] at h,fun _ _ _ _ _ _ r h=>by simp [spec_l20Nodes.l0] at h⟩
 | k + 1=>by
  obtain ⟨ih0,ih1,ih2,ih3⟩:=spec_l20Nodes.mono_l k
  refine ⟨?_,?_,?_,?_⟩
  ·intro y0 y1 y2
   unfold spec_l20Nodes.f
   repeat' first
   | (with_reducible exact ih0 _ _ _)
   | (with_reducible exact ih1 _ _ _ _ _)
   | (with_reducible exact ih2 _ _ _ _ _)
   | (with_reducible exact ih3 _ _ _ _ _ _)
   | (with_reducible exact LeO.refl _)
   | (with_reducible exact LeO.none _)
   | (with_reducible refine LeO.ite ?_ ?_)
   | (with_reducible refine LeO.bind ?_ (fun _=>?_))
   | exact ih0 _ _ _
   | exact ih1 _ _ _ _ _
   | exact ih2 _ _ _ _ _
   | exact ih3 _ _ _ _ _ _
   | exact LeO.none _
   | refine LeO.ite ?_ ?_
   | refine LeO.bind ?_ (fun _=>?_)
  ·intro y0 y1 y2 y3 y4
   unfold spec_l20Nodes.j0
   repeat' first
   | (with_reducible exact ih0 _ _ _)
   | (with_reducible exact ih1 _ _ _ _ _)
   | (with_reducible exact ih2 _ _ _ _ _)
   | (with_reducible exact ih3 _ _ _ _ _ _)
   | (with_reducible exact LeO.refl _)
   | (with_reducible exact LeO.none _)
   | (with_reducible refine LeO.ite ?_ ?_)
   | (with_reducible refine LeO.bind ?_ (fun _=>?_))
   | exact ih0 _ _ _
   | exact ih1 _ _ _ _ _
   | exact ih2 _ _ _ _ _
   | exact ih3 _ _ _ _ _ _
   | exact LeO.none _
   | refine LeO.ite ?_ ?_
   | refine LeO.bind ?_ (fun _=>?_)
  ·intro y0 y1 y2 y3 y4
   unfold spec_l20Nodes.j1
   repeat' first
   | (with_reducible exact ih0 _ _ _)
   | (with_reducible exact ih1 _ _ _ _ _)
   | (with_reducible exact ih2 _ _ _ _ _)
   | (with_reducible exact ih3 _ _ _ _ _ _)
   | (with_reducible exact LeO.refl _)
   | (with_reducible exact LeO.none _)
   | (with_reducible refine LeO.ite ?_ ?_)
   | (with_reducible refine LeO.bind ?_ (fun _=>?_))
   | exact ih0 _ _ _
   | exact ih1 _ _ _ _ _
   | exact ih2 _ _ _ _ _
   | exact ih3 _ _ _ _ _ _
   | exact LeO.none _
   | refine LeO.ite ?_ ?_
   | refine LeO.bind ?_ (fun _=>?_)
  ·intro y0 y1 y2 y3 y4 y5
   unfold spec_l20Nodes.l0
   repeat' first
   | (with_reducible exact ih0 _ _ _)
   | (with_reducible exact ih1 _ _ _ _ _)
   | (with_reducible exact ih2 _ _ _ _ _)
   | (with_reducible exact ih3 _ _ _ _ _ _)
   | (with_reducible exact LeO.refl _)
   | (with_reducible exact LeO.none _)
   | (with_reducible refine LeO.ite ?_ ?_)
   | (with_reducible refine LeO.bind ?_ (fun _=>?_))
   | exact ih0 _ _ _
   | exact ih1 _ _ _ _ _
   | exact ih2 _ _ _ _ _
   | exact ih3 _ _ _ _ _ _
   | exact LeO.none _
   | refine LeO.ite ?_ ?_
   | refine LeO.bind ?_ (fun _=>?_)
theorem spec_l20Nodes.mono:∀ a0 a1 a2 k,LeO (spec_l20Nodes.f k a0 a1 a2) (spec_l20Nodes.f (k + 1) a0 a1 a2):=by
 intro a0 a1 a2 k
 obtain ⟨ih0,ih1,ih2,ih3⟩:=spec_l20Nodes.mono_l k
 exact ih0 a0 a1 a2
set_option maxHeartbeats 8000000 in
set_option maxRecDepth 100000 in
theorem spec_l20Nodes.calls (k:Nat):∀ (a0_0:Int) (a0_1:Int) (A0_2:Option Addr) (c0_2:Nat) (l0_2:List (S25)) (r:Int) (w:World) (hr0_2:Kd.C k25 w A0_2 l0_2.length l0_2) (hc0_2:l0_2.length ≤ c0_2) (h:spec_l20Nodes.f k a0_0 a0_1 l0_2 = some r),
  Calls Tryd.prog 45 #[.agg #[.int .i64 a0_0,.int .i64 a0_1,.slice A0_2 l0_2.length c0_2]] w fun e w'=>e = .returned (.int .i64 r)∧Below w.heap.size w w':=by
 induction k using Nat.strongRecOn with
 | _ k ih =>
 intro a0_0 a0_1 A0_2 c0_2 l0_2 r w hr0_2 hc0_2 h
 cases k with
 | zero=>exact absurd h (by simp [spec_l20Nodes.f])
 | succ k =>
 simp only [spec_l20Nodes.f] at h
 have hu25:=Tryd.underlying25
 have HR0_2:=Aside0.mk hr0_2
 have HC0_2:=Aside0.mk hc0_2
 clear hr0_2 hc0_2
 have HB:=Aside0.mk (Below.refl w.heap.size w)
 have H:(if a0_0 = 0 then ((spec_l6In.f a0_1 0 9).bind fun t158=>(spec_l20Nodes.j0 k 0 t158 a0_0 a0_1 l0_2)) else (spec_l20Nodes.j0 k 2 (a0_1 == 0) a0_0 a0_1 l0_2)) = some r:=h
 clear h
 have HC2:=Aside0.mk H
 clear H
 go_enter Tryd.func45,Tryd.ntmps45
 go_upto_if 13 with (first | ((with_reducible refine gate_dst (N:=1) rfl ?_);(try (refine gate_guard (by rfl) ?_;dsimp only));refine box_event ?hg (N:=1) ?hd (cs:=#[.int .i64 a0_0,.int .i64 a0_1,.slice A0_2 l0_2.length c0_2]) (t:=25) ?hr ?_;(case hd=>rfl);(case hg=>rfl);(case hr=>first | (go_simp;done) | (go_simp;rfl));intro gb157 hg w3 hbox hb;have n0_:=Aside0.mk (below_step (by repeat (first | (with_reducible first | exact HB.out | apply below_alloc | apply pw_below_drewN | apply below_drew1) | exact HB.out)) hb);have n1_:=Aside0.mk (hbox);have n2_:=Aside0.mk ((by rw [hg];exact (below_size (by repeat (first | (with_reducible first | exact HB.out | apply below_alloc | apply pw_below_drewN | apply below_drew1) | exact HB.out))):w.heap.size ≤ gb157));have n3_:=Aside0.mk ((by rw [hg];exact (below_size (by repeat (first | (with_reducible first | exact HB.out | apply below_alloc | apply pw_below_drewN | apply below_drew1) | exact HB.out))):w.heap.size ≤ gb157));clear HB;have HB:=n0_;have BK157:=n1_;have GW157:=n2_;have GE157:=n3_;clear n0_ n1_ n2_ n3_;clear hb hbox hg;have hcz4_0:w3.cell? ⟨gb157,0,none⟩ = some (.int .i64 a0_0):=(blk_cell BK157.out 0).trans rfl;have hcz4_1:w3.cell? ⟨gb157,1,none⟩ = some (.int .i64 a0_1):=(blk_cell BK157.out 1).trans rfl;have hcz4_2:w3.cell? ⟨gb157,2,none⟩ = some (.slice A0_2 l0_2.length c0_2):=(blk_cell BK157.out 2).trans rfl;have hfz4_0:=blk_frozen BK157.out 0;have hfz4_1:=blk_frozen BK157.out 1;have hfz4_2:=blk_frozen BK157.out 2))
 (try simp only [Act.put,List.setIfInBounds_toArray,List.set_cons_zero,List.set_cons_succ])
 go_cut [3,4] (fun v3 v4 wc=>∃ (kq:Nat) (x3_1:Int) (x4_1:Bool),v3 = .int .i64 x3_1∧v4 = .bool x4_1∧Aside0 (spec_l20Nodes.j0 kq x3_1 x4_1 a0_0 a0_1 l0_2 = some r)∧Aside0 (kq ≤ k)∧Aside0 (wc.heap[gb157]? = some (.cells #[.int .i64 a0_0,.int .i64 a0_1,(.slice A0_2 l0_2.length c0_2)] 25 (0,0)))∧Aside0 (Below w.heap.size w wc))
 case first =>
  have H:=HC2.out
  clear HC2
  by_cases c5:a0_0 = 0
  ·rw [if_pos c5] at H
   have c5b0:(a0_0 == 0) = true:=beq_iff_eq.mpr c5
   have c5b1:(a0_0 != 0) = false:=bne_eq_false_iff_eq.mpr c5
   clear c5
   (first | rw [c5b0] | (simp only [i64_w,i32_w];rw [c5b0]) | skip)
   replace H:=Option.bind_eq_some_iff.mp H
   obtain ⟨t158,A60,H⟩:=H
   replace H:(spec_l20Nodes.j0 k 0 t158 a0_0 a0_1 l0_2) = some r:=H
   have A6:=Aside0.mk A60
   clear A60
   have H':=Aside0.mk H
   clear H
   have hcz7_0:w3.cell? ⟨gb157,0,none⟩ = some (.int .i64 a0_0):=(blk_cell BK157.out 0).trans rfl
   have hcz7_1:w3.cell? ⟨gb157,1,none⟩ = some (.int .i64 a0_1):=(blk_cell BK157.out 1).trans rfl
   have hcz7_2:w3.cell? ⟨gb157,2,none⟩ = some (.slice A0_2 l0_2.length c0_2):=(blk_cell BK157.out 2).trans rfl
   have hfz7_0:=blk_frozen BK157.out 0
   have hfz7_1:=blk_frozen BK157.out 1
   have hfz7_2:=blk_frozen BK157.out 2
   go_wp2_with (first | ((with_reducible refine gate_callee (f:=44) rfl ?_);refine goesL_ (some 16) rfl rfl Tryd.func44 (by kernel_rfl) rfl #[.int .i64 a0_1,.int .i64 0,.int .i64 9] rfl (by (try simp only [List.map_toArray,List.map_cons,List.map_nil]);first | done | rfl | (simp only [List.length_drop,List.length_take];rfl)) ?_;(with_reducible refine (spec_l6In.calls a0_1 0 9 t158 _ A6.out).mono ?_);rintro e w' ⟨rfl,⟨nd,rfl⟩⟩;refine ⟨_,rfl,?_⟩))
   go_meet
   case rel=>exact ⟨_,(0),(t158),(by first | rfl | (simp;done) | (simp [*];done)),(by first | rfl | (simp;done) | (simp [*];done)),H',⟨by first | omega | exact Nat.le_refl _⟩,⟨by (with_reducible repeat (first | refine blk_drewN ?_ _ | refine blk_drew ?_ | refine blk_alloc ?_ _));exact BK157.out⟩,⟨by repeat (first | (with_reducible first | exact HB.out | apply below_alloc | apply pw_below_drewN | apply below_drew1 | refine below_set ?_ GE157.out) | exact HB.out)⟩⟩
  ·rw [if_neg c5] at H
   have c5b0:(a0_0 == 0) = false:=beq_eq_false_iff_ne.mpr c5
   have c5b1:(a0_0 != 0) = true:=bne_iff_ne.mpr c5
   (first | rw [c5b0] | (simp only [i64_w,i32_w];rw [c5b0]) | skip)
   have H':=Aside0.mk H
   clear H
   go_wp2
   go_meet
   case rel=>exact ⟨_,(2),((a0_1 == 0)),(by first | rfl | (simp;done) | (simp [*];done)),(by first | rfl | (simp;done) | (simp [*];done)),H',⟨by first | omega | exact Nat.le_refl _⟩,⟨by (with_reducible repeat (first | refine blk_drewN ?_ _ | refine blk_drew ?_ | refine blk_alloc ?_ _));exact BK157.out⟩,⟨by repeat (first | (with_reducible first | exact HB.out | apply below_alloc | apply pw_below_drewN | apply below_drew1 | refine below_set ?_ GE157.out) | exact HB.out)⟩⟩
 case rest =>
  clear HC2
  try clear p2
  try clear c4
  try clear c5
  try clear c5b0
  try clear c5b1
  try clear hcz4_0
  try clear hcz4_1
  try clear hcz4_2
  try clear hcz7_0
  try clear hcz7_1
  try clear hcz7_2
  try clear hfz4_0
  try clear hfz4_1
  try clear hfz4_2
  try clear hfz7_0
  try clear hfz7_1
  try clear hfz7_2
  obtain ⟨kq,x3_1,x4_1,rfl,rfl,HA,HJ1,BK157,HB⟩:=hcut
  cases kq with
  | zero=>exact absurd HA.out (by simp [spec_l20Nodes.j0])
  | succ kj1 =>
   have H:=HA.out
   clear HA
   simp only [spec_l20Nodes.j0] at H
   have HC8:=Aside0.mk H
   clear H
   go_upto_region 6 with (fail)
   go_cut [31] (fun v31 wc=>∃ (kq:Nat) (x31_7:Bool),v31 = .bool x31_7∧Aside0 (spec_l20Nodes.j1 kq x3_1 x31_7 a0_0 a0_1 l0_2 = some r)∧Aside0 (kq ≤ kj1)∧Aside0 (wc.heap[gb157]? = some (.cells #[.int .i64 a0_0,.int .i64 a0_1,(.slice A0_2 l0_2.length c0_2)] 25 (0,0)))∧Aside0 (Below w.heap.size w wc))
   case first =>
    have H:=HC8.out
    clear HC8
    replace H:=Option.bind_eq_some_iff.mp H
    obtain ⟨t159,A90,H⟩:=H
    replace H:(if t159 = true then (if x4_1 = true then (spec_l20Nodes.j1 kj1 x3_1 ((l0_2.length:Int) != x3_1) a0_0 a0_1 l0_2) else (spec_l20Nodes.j1 kj1 x3_1 true a0_0 a0_1 l0_2)) else (spec_l20Nodes.j1 kj1 x3_1 true a0_0 a0_1 l0_2)) = some r:=H
    have A9:=Aside0.mk A90
    clear A90
    by_cases c10:t159 = true
    ·subst c10
     have H1:(if x4_1 = true then (spec_l20Nodes.j1 kj1 x3_1 ((l0_2.length:Int) != x3_1) a0_0 a0_1 l0_2) else (spec_l20Nodes.j1 kj1 x3_1 true a0_0 a0_1 l0_2)) = some r:=by rw [if_pos rfl] at H;exact H
     clear H
     have H:=H1
     clear H1
     by_cases c11:x4_1 = true
     ·subst c11
      have H1:(spec_l20Nodes.j1 kj1 x3_1 ((l0_2.length:Int) != x3_1) a0_0 a0_1 l0_2) = some r:=by rw [if_pos rfl] at H;exact H
      clear H
      have H:=H1
      clear H1
      have H':=Aside0.mk H
      clear H
      have hcz12_0:wc.cell? ⟨gb157,0,none⟩ = some (.int .i64 a0_0):=(blk_cell BK157.out 0).trans rfl
      have hcz12_1:wc.cell? ⟨gb157,1,none⟩ = some (.int .i64 a0_1):=(blk_cell BK157.out 1).trans rfl
      have hcz12_2:wc.cell? ⟨gb157,2,none⟩ = some (.slice A0_2 l0_2.length c0_2):=(blk_cell BK157.out 2).trans rfl
      have hfz12_0:=blk_frozen BK157.out 0
      have hfz12_1:=blk_frozen BK157.out 1
      have hfz12_2:=blk_frozen BK157.out 2
      go_wp2_with (first | ((with_reducible refine gate_callee (f:=44) rfl ?_);refine goesL_ (some 19) rfl rfl Tryd.func44 (by kernel_rfl) rfl #[.int .i64 a0_0,.int .i64 0,.int .i64 2] rfl (by (try simp only [List.map_toArray,List.map_cons,List.map_nil]);first | done | rfl | (simp only [List.length_drop,List.length_take];rfl)) ?_;(with_reducible refine (spec_l6In.calls a0_0 0 2 true _ A9.out).mono ?_);rintro e w' ⟨rfl,⟨nd,rfl⟩⟩;refine ⟨_,rfl,?_⟩))
      go_meet
      case rel=>exact ⟨_,(((l0_2.length:Int) != x3_1)),(by first | rfl | (simp;done) | (simp [*];done)),H',⟨by have:=HJ1.out;first | omega | exact Nat.le_refl _⟩,⟨by (with_reducible repeat (first | refine blk_drewN ?_ _ | refine blk_drew ?_ | refine blk_alloc ?_ _));exact BK157.out⟩,⟨by repeat (first | (with_reducible first | exact HB.out | apply below_alloc | apply pw_below_drewN | apply below_drew1 | refine below_set ?_ GE157.out) | exact HB.out)⟩⟩
     ·replace c11:=Bool.eq_false_iff.mpr c11
      subst c11
      have H1:(spec_l20Nodes.j1 kj1 x3_1 true a0_0 a0_1 l0_2) = some r:=by rw [if_neg (show ¬ (false = true) by decide)] at H;exact H
      clear H
      have H:=H1
      clear H1
      have H':=Aside0.mk H
      clear H
      have hcz13_0:wc.cell? ⟨gb157,0,none⟩ = some (.int .i64 a0_0):=(blk_cell BK157.out 0).trans rfl
      have hcz13_1:wc.cell? ⟨gb157,1,none⟩ = some (.int .i64 a0_1):=(blk_cell BK157.out 1).trans rfl
      have hcz13_2:wc.cell? ⟨gb157,2,none⟩ = some (.slice A0_2 l0_2.length c0_2):=(blk_cell BK157.out 2).trans rfl
      have hfz13_0:=blk_frozen BK157.out 0
      have hfz13_1:=blk_frozen BK157.out 1
      have hfz13_2:=blk_frozen BK157.out 2
      go_wp2_with (first | ((with_reducible refine gate_callee (f:=44) rfl ?_);refine goesL_ (some 19) rfl rfl Tryd.func44 (by kernel_rfl) rfl #[.int .i64 a0_0,.int .i64 0,.int .i64 2] rfl (by (try simp only [List.map_toArray,List.map_cons,List.map_nil]);first | done | rfl | (simp only [List.length_drop,List.length_take];rfl)) ?_;(with_reducible refine (spec_l6In.calls a0_0 0 2 true _ A9.out).mono ?_);rintro e w' ⟨rfl,⟨nd,rfl⟩⟩;refine ⟨_,rfl,?_⟩))
      go_meet
      case rel=>exact ⟨_,(true),(by first | rfl | (simp;done) | (simp [*];done)),H',⟨by have:=HJ1.out;first | omega | exact Nat.le_refl _⟩,⟨by (with_reducible repeat (first | refine blk_drewN ?_ _ | refine blk_drew ?_ | refine blk_alloc ?_ _));exact BK157.out⟩,⟨by repeat (first | (with_reducible first | exact HB.out | apply below_alloc | apply pw_below_drewN | apply below_drew1 | refine below_set ?_ GE157.out) | exact HB.out)⟩⟩
    ·replace c10:=Bool.eq_false_iff.mpr c10
     subst c10
     have H1:(spec_l20Nodes.j1 kj1 x3_1 true a0_0 a0_1 l0_2) = some r:=by rw [if_neg (show ¬ (false = true) by decide)] at H;exact H
     clear H
     have H:=H1
     clear H1
     have H':=Aside0.mk H
     clear H
     have hcz14_0:wc.cell? ⟨gb157,0,none⟩ = some (.int .i64 a0_0):=(blk_cell BK157.out 0).trans rfl
     have hcz14_1:wc.cell? ⟨gb157,1,none⟩ = some (.int .i64 a0_1):=(blk_cell BK157.out 1).trans rfl
     have hcz14_2:wc.cell? ⟨gb157,2,none⟩ = some (.slice A0_2 l0_2.length c0_2):=(blk_cell BK157.out 2).trans rfl
     have hfz14_0:=blk_frozen BK157.out 0
     have hfz14_1:=blk_frozen BK157.out 1
     have hfz14_2:=blk_frozen BK157.out 2
     go_wp2_with (first | ((with_reducible refine gate_callee (f:=44) rfl ?_);refine goesL_ (some 19) rfl rfl Tryd.func44 (by kernel_rfl) rfl #[.int .i64 a0_0,.int .i64 0,.int .i64 2] rfl (by (try simp only [List.map_toArray,List.map_cons,List.map_nil]);first | done | rfl | (simp only [List.length_drop,List.length_take];rfl)) ?_;(with_reducible refine (spec_l6In.calls a0_0 0 2 false _ A9.out).mono ?_);rintro e w' ⟨rfl,⟨nd,rfl⟩⟩;refine ⟨_,rfl,?_⟩))
     go_meet
     case rel=>exact ⟨_,(true),(by first | rfl | (simp;done) | (simp [*];done)),H',⟨by have:=HJ1.out;first | omega | exact Nat.le_refl _⟩,⟨by (with_reducible repeat (first | refine blk_drewN ?_ _ | refine blk_drew ?_ | refine blk_alloc ?_ _));exact BK157.out⟩,⟨by repeat (first | (with_reducible first | exact HB.out | apply below_alloc | apply pw_below_drewN | apply below_drew1 | refine below_set ?_ GE157.out) | exact HB.out)⟩⟩
   case rest =>
    clear HC8
    try clear c1
    try clear p2
    try clear c4
    try clear c5
    try clear c5b0
    try clear c5b1
    try clear c10
    try clear c11
    try clear hcz12_0
    try clear hcz12_1
    try clear hcz12_2
    try clear hcz13_0
    try clear hcz13_1
    try clear hcz13_2
    try clear hcz14_0
    try clear hcz14_1
    try clear hcz14_2
    try clear hcz4_0
    try clear hcz4_1
    try clear hcz4_2
    try clear hcz7_0
    try clear hcz7_1
    try clear hcz7_2
    try clear hfz12_0
    try clear hfz12_1
    try clear hfz12_2
    try clear hfz13_0
    try clear hfz13_1
    try clear hfz13_2
    try clear hfz14_0
    try clear hfz14_1
    try clear hfz14_2
    try clear hfz4_0
    try clear hfz4_1
    try clear hfz4_2
    try clear hfz7_0
    try clear hfz7_1
    try clear hfz7_2
    try clear p2
    obtain ⟨kq,x31_7,rfl,HA,HJ7,BK157,HB⟩:=hcut
    cases kq with
    | zero=>exact absurd HA.out (by simp [spec_l20Nodes.j1])
    | succ kj7 =>
     have H:=HA.out
     clear HA
     simp only [spec_l20Nodes.j1] at H
     by_cases c15:x31_7 = true
     ·subst c15
      have H1:(some 0) = some r:=by rw [if_pos rfl] at H;exact H
      clear H
      have H:=H1
      clear H1
      obtain rfl:=Option.some.inj H
      go_wp2
      go_ret
      exact ⟨by first | rfl | (simp [errW_none,errW_some] <;> rfl) | (simp [*,errW_none,errW_some] <;> rfl),by repeat (first | (with_reducible first | exact HB.out | apply below_alloc | apply pw_below_drewN | apply below_drew1 | refine below_set ?_ GE157.out) | exact HB.out)⟩
     ·replace c15:=Bool.eq_false_iff.mpr c15
      subst c15
      have H1:(spec_l20Nodes.l0 kj7 x3_1 1 0 a0_0 a0_1 l0_2) = some r:=by rw [if_neg (show ¬ (false = true) by decide)] at H;exact H
      clear H
      have H:=H1
      clear H1
      have H':=Aside0.mk H
      clear H
      go_wp2
      go_loopg [5,6] kj7 (fun kq v5 v6 w'=>∃ (x5_3:Int) (x6_3:Int),v5 = .int .i64 x5_3∧v6 = .int .i64 x6_3∧Aside0 (spec_l20Nodes.l0 kq x3_1 x5_3 x6_3 a0_0 a0_1 l0_2 = some r)∧Aside0 (kq ≤ kj7)∧Aside0 (w'.heap[gb157]? = some (.cells #[.int .i64 a0_0,.int .i64 a0_1,(.slice A0_2 l0_2.length c0_2)] 25 (0,0)))∧Aside0 (Below w.heap.size w w'))
      case atStart=>exact ⟨(1),(0),(by first | rfl | (simp;done) | (simp [*];done)),(by first | rfl | (simp;done) | (simp [*];done)),H',⟨Nat.le_refl _⟩,⟨by (with_reducible repeat (first | refine blk_drewN ?_ _ | refine blk_drew ?_ | refine blk_alloc ?_ _));exact BK157.out⟩,⟨by repeat (first | (with_reducible first | exact HB.out | apply below_alloc | apply pw_below_drewN | apply below_drew1 | refine below_set ?_ GE157.out) | exact HB.out)⟩⟩
      case round =>
       clear H'
       try clear c1
       try clear p2
       try clear c4
       try clear c5
       try clear c5b0
       try clear c5b1
       try clear c10
       try clear c11
       try clear c15
       try clear hcz12_0
       try clear hcz12_1
       try clear hcz12_2
       try clear hcz13_0
       try clear hcz13_1
       try clear hcz13_2
       try clear hcz14_0
       try clear hcz14_1
       try clear hcz14_2
       try clear hcz4_0
       try clear hcz4_1
       try clear hcz4_2
       try clear hcz7_0
       try clear hcz7_1
       try clear hcz7_2
       try clear hfz12_0
       try clear hfz12_1
       try clear hfz12_2
       try clear hfz13_0
       try clear hfz13_1
       try clear hfz13_2
       try clear hfz14_0
       try clear hfz14_1
       try clear hfz14_2
       try clear hfz4_0
       try clear hfz4_1
       try clear hfz4_2
       try clear hfz7_0
       try clear hfz7_1
       try clear hfz7_2
       try clear p2
       obtain ⟨x5_3,x6_3,rfl,rfl,HA,HK3,BK157,HB⟩:=hrel
       cases gk with
       | zero=>exact absurd HA.out (by simp [spec_l20Nodes.l0])
       | succ k3 =>
        have H:=HA.out
        clear HA
        simp only [spec_l20Nodes.l0] at H
        by_cases c16:x6_3 < x3_1
        ·rw [if_pos c16] at H
         have c16b0:decide (x6_3 < x3_1) = true:=decide_eq_true c16
         clear c16
         by_cases c17:0 ≤ x6_3
         ·rw [if_pos c17] at H
          have c17b0:decide (0 ≤ x6_3) = true:=decide_eq_true c17
          clear c17
          by_cases c18:x6_3 < (l0_2.length:Int)
          ·rw [if_pos c18] at H
           have c18b0:decide (x6_3 < (l0_2.length:Int)) = true:=decide_eq_true c18
           clear c18
           replace H:=Option.bind_eq_some_iff.mp H
           obtain ⟨t161,A190,H⟩:=H
           replace H:(if t161 = 0 then (some 0) else (spec_l20Nodes.l0 k3 x3_1 (mn 1000 (wrap64 (x5_3 + t161))) (wrap64 (x6_3 + 1)) a0_0 a0_1 l0_2)) = some r:=H
           have A19:=Aside0.mk A190
           clear A190
           by_cases c20:t161 = 0
           ·rw [if_pos c20] at H
            have c20b0:(t161 == 0) = true:=beq_iff_eq.mpr c20
            have c20b1:(t161 != 0) = false:=bne_eq_false_iff_eq.mpr c20
            clear c20
            obtain rfl:=Option.some.inj H
            have hcz21_0:wr.cell? ⟨gb157,0,none⟩ = some (.int .i64 a0_0):=(blk_cell BK157.out 0).trans rfl
            have hcz21_1:wr.cell? ⟨gb157,1,none⟩ = some (.int .i64 a0_1):=(blk_cell BK157.out 1).trans rfl
            have hcz21_2:wr.cell? ⟨gb157,2,none⟩ = some (.slice A0_2 l0_2.length c0_2):=(blk_cell BK157.out 2).trans rfl
            have hfz21_0:=blk_frozen BK157.out 0
            have hfz21_1:=blk_frozen BK157.out 1
            have hfz21_2:=blk_frozen BK157.out 2
            have p160:0 ≤ (x6_3:Int):=of_decide_eq_true (by first | (with_reducible assumption) | assumption)
            have q160:x6_3 < (l0_2.length:Int):=of_decide_eq_true (by first | (with_reducible assumption) | assumption)
            obtain ⟨ad160,A160_2,c160_2,e160,hx160_0,hx160_1,hx160_2,hl160_2,hi160_2⟩:=at_T25 HR0_2.out x6_3 p160 q160
            cases e160
            replace hx160_0:=(HB.out.cell (World.block_lt_of_cell? w _ hx160_0)).trans hx160_0
            replace hx160_1:=(HB.out.cell (World.block_lt_of_cell? w _ hx160_1)).trans hx160_1
            replace hx160_2:=(HB.out.cell (World.block_lt_of_cell? w _ hx160_2)).trans hx160_2
            have HR160_2:=Aside0.mk hi160_2
            have HC160_2:=Aside0.mk hl160_2
            clear hi160_2 hl160_2
            replace p160:=eq_true p160
            replace q160:=eq_true q160
            go_wp2_with (first | ((with_reducible refine gate_callee (f:=45) rfl ?_);refine goesL_ (some 42) rfl rfl Tryd.func45 (by kernel_rfl) rfl #[.agg #[.int .i64 ((rd_T25 l0_2 x6_3).f0),.int .i64 ((rd_T25 l0_2 x6_3).f1),.slice A160_2 ((rd_T25 l0_2 x6_3).f2).length c160_2]] rfl (by (try simp only [List.map_toArray,List.map_cons,List.map_nil]);first | done | rfl | (simp only [List.length_drop,List.length_take];rfl)) ?_;(with_reducible refine (ih k3 (by have:=HJ1.out;have:=HJ7.out;have:=HK3.out;omega) ((rd_T25 l0_2 x6_3).f0) ((rd_T25 l0_2 x6_3).f1) _ _ ((rd_T25 l0_2 x6_3).f2) t161 _ ?side1 ?side2 A19.out).mono ?_);(case side1=>repeat (first | exact (Kd.C_below HR160_2.out HB.out) | (with_reducible refine Kd.C_alloc ?_ _) | (with_reducible refine Kd.C_drewN ?_ _) | (with_reducible refine Kd.C_drew ?_)));(case side2=>exact HC160_2.out);rintro e w22 ⟨rfl,hb⟩;refine ⟨_,rfl,?_⟩;have n0_:=Aside0.mk (blk_below (g:=gb157) (o:=.cells #[.int .i64 a0_0,.int .i64 a0_1,.slice (some ad160) l0_2.length c0_2] 25 (0,0)) (by (with_reducible repeat (first | refine blk_drewN ?_ _ | refine blk_drew ?_ | refine blk_alloc ?_ _));exact BK157.out) hb);have n1_:=Aside0.mk (below_step (by repeat (first | (with_reducible first | exact HB.out | apply below_alloc | apply pw_below_drewN | apply below_drew1 | refine below_set ?_ GE157.out) | exact HB.out)) hb);clear BK157;clear HB;have BK157:=n0_;have HB:=n1_;clear n0_ n1_;(try clear hb);(try clear hb2);(try clear hk);(try clear hi)))
            go_ret
            exact ⟨by first | rfl | (simp [errW_none,errW_some] <;> rfl) | (simp [*,errW_none,errW_some] <;> rfl),by repeat (first | (with_reducible first | exact HB.out | apply below_alloc | apply pw_below_drewN | apply below_drew1 | refine below_set ?_ GE157.out) | exact HB.out)⟩
           ·rw [if_neg c20] at H
            have c20b0:(t161 == 0) = false:=beq_eq_false_iff_ne.mpr c20
            have c20b1:(t161 != 0) = true:=bne_iff_ne.mpr c20
            obtain ⟨ji23,hji23⟩:∃ j_:Int,(mn 1000 (wrap64 (x5_3 + t161))) = j_:=⟨_,rfl⟩
            replace H:(spec_l20Nodes.l0 k3 x3_1 ji23 (wrap64 (x6_3 + 1)) a0_0 a0_1 l0_2) = some r:=by first | (rw [hji23] at H;exact H) | (simp only [hji23] at H ⊢;exact H)
            (try rw [hji23] at A19)
            have hji23_:(if (wrap64 (x5_3 + t161)) < 1000 then (wrap64 (x5_3 + t161)) else 1000) = ji23:=hji23
            have H':=Aside0.mk H
            clear H
            have hcz24_0:wr.cell? ⟨gb157,0,none⟩ = some (.int .i64 a0_0):=(blk_cell BK157.out 0).trans rfl
            have hcz24_1:wr.cell? ⟨gb157,1,none⟩ = some (.int .i64 a0_1):=(blk_cell BK157.out 1).trans rfl
            have hcz24_2:wr.cell? ⟨gb157,2,none⟩ = some (.slice A0_2 l0_2.length c0_2):=(blk_cell BK157.out 2).trans rfl
            have hfz24_0:=blk_frozen BK157.out 0
            have hfz24_1:=blk_frozen BK157.out 1
            have hfz24_2:=blk_frozen BK157.out 2
            have p160:0 ≤ (x6_3:Int):=of_decide_eq_true (by first | (with_reducible assumption) | assumption)
            have q160:x6_3 < (l0_2.length:Int):=of_decide_eq_true (by first | (with_reducible assumption) | assumption)
            obtain ⟨ad160,A160_2,c160_2,e160,hx160_0,hx160_1,hx160_2,hl160_2,hi160_2⟩:=at_T25 HR0_2.out x6_3 p160 q160
            cases e160
            replace hx160_0:=(HB.out.cell (World.block_lt_of_cell? w _ hx160_0)).trans hx160_0
            replace hx160_1:=(HB.out.cell (World.block_lt_of_cell? w _ hx160_1)).trans hx160_1
            replace hx160_2:=(HB.out.cell (World.block_lt_of_cell? w _ hx160_2)).trans hx160_2
            have HR160_2:=Aside0.mk hi160_2
            have HC160_2:=Aside0.mk hl160_2
            clear hi160_2 hl160_2
            replace p160:=eq_true p160
            replace q160:=eq_true q160
            go_wp2_with (first | ((with_reducible refine gate_callee (f:=45) rfl ?_);refine goesL_ (some 42) rfl rfl Tryd.func45 (by kernel_rfl) rfl #[.agg #[.int .i64 ((rd_T25 l0_2 x6_3).f0),.int .i64 ((rd_T25 l0_2 x6_3).f1),.slice A160_2 ((rd_T25 l0_2 x6_3).f2).length c160_2]] rfl (by (try simp only [List.map_toArray,List.map_cons,List.map_nil]);first | done | rfl | (simp only [List.length_drop,List.length_take];rfl)) ?_;(with_reducible refine (ih k3 (by have:=HJ1.out;have:=HJ7.out;have:=HK3.out;omega) ((rd_T25 l0_2 x6_3).f0) ((rd_T25 l0_2 x6_3).f1) _ _ ((rd_T25 l0_2 x6_3).f2) t161 _ ?side1 ?side2 A19.out).mono ?_);(case side1=>repeat (first | exact (Kd.C_below HR160_2.out HB.out) | (with_reducible refine Kd.C_alloc ?_ _) | (with_reducible refine Kd.C_drewN ?_ _) | (with_reducible refine Kd.C_drew ?_)));(case side2=>exact HC160_2.out);rintro e w25 ⟨rfl,hb⟩;refine ⟨_,rfl,?_⟩;have n0_:=Aside0.mk (blk_below (g:=gb157) (o:=.cells #[.int .i64 a0_0,.int .i64 a0_1,.slice (some ad160) l0_2.length c0_2] 25 (0,0)) (by (with_reducible repeat (first | refine blk_drewN ?_ _ | refine blk_drew ?_ | refine blk_alloc ?_ _));exact BK157.out) hb);have n1_:=Aside0.mk (below_step (by repeat (first | (with_reducible first | exact HB.out | apply below_alloc | apply pw_below_drewN | apply below_drew1 | refine below_set ?_ GE157.out) | exact HB.out)) hb);clear BK157;clear HB;have BK157:=n0_;have HB:=n1_;clear n0_ n1_;(try clear hb);(try clear hb2);(try clear hk);(try clear hi)))
            go_roundg k3
            case measure=>have:=HJ1.out;have:=HJ7.out;have:=HK3.out;omega
            case rel=>exact ⟨(ji23),(wrap64 (x6_3 + 1)),(by first | rfl | (simp;done) | (simp only [← hji23] <;> (first | rfl | simp)) | (simp [*];done)),(by first | rfl | (simp;done) | (simp [*];done)),H',⟨by have:=HJ1.out;have:=HJ7.out;have:=HK3.out;omega⟩,⟨by (with_reducible repeat (first | refine blk_drewN ?_ _ | refine blk_drew ?_ | refine blk_alloc ?_ _));exact BK157.out⟩,⟨by repeat (first | (with_reducible first | exact HB.out | apply below_alloc | apply pw_below_drewN | apply below_drew1 | refine below_set ?_ GE157.out) | exact HB.out)⟩⟩
          ·rw [if_neg c18] at H
           exact absurd H (by simp)
         ·rw [if_neg c17] at H
          exact absurd H (by simp)
        ·rw [if_neg c16] at H
         have c16b0:decide (x6_3 < x3_1) = false:=decide_eq_false c16
         clear c16
         obtain rfl:=Option.some.inj H
         go_wp2
         go_ret
         exact ⟨by first | rfl | (simp [errW_none,errW_some] <;> rfl) | (simp [*,errW_none,errW_some] <;> rfl),by repeat (first | (with_reducible first | exact HB.out | apply below_alloc | apply pw_below_drewN | apply below_drew1 | refine below_set ?_ GE157.out) | exact HB.out)⟩
def spec_SealOk.f (k:Nat) (a0_0:Int) (a0_1:Int) (l0_2:List (S25)):Option (Bool):=(spec_l20Nodes.f k a0_0 a0_1 l0_2).bind fun t163=>((spec_l6In.f t163 1 12).bind fun t164=>(some t164))
theorem spec_SealOk.mono:∀ a0 a1 a2 k,LeO (spec_SealOk.f k a0 a1 a2) (spec_SealOk.f (k + 1) a0 a1 a2):=by
 intro a0 a1 a2 k
 unfold spec_SealOk.f
 repeat' first
   | (with_reducible exact spec_l20Nodes.mono _ _ _ _)
   | (with_reducible exact LeO.refl _)
   | (with_reducible exact LeO.none _)
   | (with_reducible refine LeO.ite ?_ ?_)
   | (with_reducible refine LeO.bind ?_ (fun _=>?_))
   | exact spec_l20Nodes.mono _ _ _ _
   | exact LeO.none _
   | refine LeO.ite ?_ ?_
   | refine LeO.bind ?_ (fun _=>?_)
set_option maxHeartbeats 8000000 in
set_option maxRecDepth 100000 in
theorem spec_SealOk.calls (k:Nat) (a0_0:Int) (a0_1:Int) (A0_2:Option Addr) (c0_2:Nat) (l0_2:List (S25)) (r:Bool) (w:World) (hr0_2:Kd.C k25 w A0_2 l0_2.length l0_2) (hc0_2:l0_2.length ≤ c0_2) (h:spec_SealOk.f k a0_0 a0_1 l0_2 = some r) :
  Calls Tryd.prog 15 #[.agg #[.int .i64 a0_0,.int .i64 a0_1,.slice A0_2 l0_2.length c0_2]] w fun e w'=>e = .returned (.bool r)∧Below w.heap.size w w':=by
 have hu25:=Tryd.underlying25
 have HR0_2:=Aside0.mk hr0_2
 have HC0_2:=Aside0.mk hc0_2
 clear hr0_2 hc0_2
 have HB:=Aside0.mk (Below.refl w.heap.size w)
 have H:((spec_l20Nodes.f k a0_0 a0_1 l0_2).bind fun t163=>((spec_l6In.f t163 1 12).bind fun t164=>(some t164))) = some r:=h
 clear h
 replace H:=Option.bind_eq_some_iff.mp H
 obtain ⟨t163,A20,H⟩:=H
 replace H:((spec_l6In.f t163 1 12).bind fun t164=>(some t164)) = some r:=H
 have A2:=Aside0.mk A20
 clear A20
 replace H:=Option.bind_eq_some_iff.mp H
 obtain ⟨t164,A30,H⟩:=H
 replace H:(some t164) = some r:=H
 have A3:=Aside0.mk A30
 clear A30
 obtain rfl:=Option.some.inj H
 go_enter Tryd.func15,Tryd.ntmps15
 go_wp2_with (first | ((with_reducible refine gate_dst (N:=1) rfl ?_);refine box_event ?hg (N:=1) ?hd (cs:=#[.int .i64 a0_0,.int .i64 a0_1,.slice A0_2 l0_2.length c0_2]) (t:=25) ?hr ?_;(case hd=>rfl);(case hg=>rfl);(case hr=>first | (go_simp;done) | (go_simp;rfl));intro gb162 hg w4 hbox hb;have n0_:=Aside0.mk (below_step (by repeat (first | (with_reducible first | exact HB.out | apply below_alloc | apply pw_below_drewN | apply below_drew1) | exact HB.out)) hb);have n1_:=Aside0.mk (hbox);have n2_:=Aside0.mk ((by rw [hg];exact (below_size (by repeat (first | (with_reducible first | exact HB.out | apply below_alloc | apply pw_below_drewN | apply below_drew1) | exact HB.out))):w.heap.size ≤ gb162));have n3_:=Aside0.mk ((by rw [hg];exact (below_size (by repeat (first | (with_reducible first | exact HB.out | apply below_alloc | apply pw_below_drewN | apply below_drew1) | exact HB.out))):w.heap.size ≤ gb162));clear HB;have HB:=n0_;have BK162:=n1_;have GW162:=n2_;have GE162:=n3_;clear n0_ n1_ n2_ n3_;clear hb hbox hg;have hcz5_0:w4.cell? ⟨gb162,0,none⟩ = some (.int .i64 a0_0):=(blk_cell BK162.out 0).trans rfl;have hcz5_1:w4.cell? ⟨gb162,1,none⟩ = some (.int .i64 a0_1):=(blk_cell BK162.out 1).trans rfl;have hcz5_2:w4.cell? ⟨gb162,2,none⟩ = some (.slice A0_2 l0_2.length c0_2):=(blk_cell BK162.out 2).trans rfl;have hfz5_0:=blk_frozen BK162.out 0;have hfz5_1:=blk_frozen BK162.out 1;have hfz5_2:=blk_frozen BK162.out 2) | ((with_reducible refine gate_callee (f:=45) rfl ?_);refine goesL_ (some 4) rfl rfl Tryd.func45 (by kernel_rfl) rfl #[.agg #[.int .i64 a0_0,.int .i64 a0_1,.slice A0_2 l0_2.length c0_2]] rfl (by (try simp only [List.map_toArray,List.map_cons,List.map_nil]);first | done | rfl | (simp only [List.length_drop,List.length_take];rfl)) ?_;(with_reducible refine (spec_l20Nodes.calls k a0_0 a0_1 _ _ l0_2 t163 _ ?side1 ?side2 A2.out).mono ?_);(case side1=>repeat (first | exact (Kd.C_below HR0_2.out HB.out) | (with_reducible refine Kd.C_alloc ?_ _) | (with_reducible refine Kd.C_drewN ?_ _) | (with_reducible refine Kd.C_drew ?_)));(case side2=>exact HC0_2.out);rintro e w6 ⟨rfl,hb⟩;refine ⟨_,rfl,?_⟩;have n0_:=Aside0.mk (blk_below (g:=gb162) (o:=.cells #[.int .i64 a0_0,.int .i64 a0_1,.slice A0_2 l0_2.length c0_2] 25 (0,0)) (by (with_reducible repeat (first | refine blk_drewN ?_ _ | refine blk_drew ?_ | refine blk_alloc ?_ _));exact BK162.out) hb);have n1_:=Aside0.mk (below_step (by repeat (first | (with_reducible first | exact HB.out | apply below_alloc | apply pw_below_drewN | apply below_drew1 | refine below_set ?_ GE162.out) | exact HB.out)) hb);clear BK162;clear HB;have BK162:=n0_;have HB:=n1_;clear n0_ n1_;(try clear hb);(try clear hb2);(try clear hk);(try clear hi)) | ((with_reducible refine gate_callee (f:=44) rfl ?_);refine goesL_ (some 5) rfl rfl Tryd.func44 (by kernel_rfl) rfl #[.int .i64 t163,.int .i64 1,.int .i64 12] rfl (by (try simp only [List.map_toArray,List.map_cons,List.map_nil]);first | done | rfl | (simp only [List.length_drop,List.length_take];rfl)) ?_;(with_reducible refine (spec_l6In.calls t163 1 12 t164 _ A3.out).mono ?_);rintro e w' ⟨rfl,⟨nd,rfl⟩⟩;refine ⟨_,rfl,?_⟩))
 go_ret
 exact ⟨by first | rfl | (simp [errW_none,errW_some] <;> rfl) | (simp [*,errW_none,errW_some] <;> rfl),by repeat (first | (with_reducible first | exact HB.out | apply below_alloc | apply pw_below_drewN | apply below_drew1 | refine below_set ?_ GE162.out) | exact HB.out)⟩
def spec_l6Dec.f:Nat → Int → Option (ByteArray)
 | 0,_=>none
 | k + 1,a0=>if a0 < (-9223372036854775807) then (some (⟨#[45,57,50,50,51,51,55,50,48,51,54,56,53,52,55,55,53,56,48,56]⟩:ByteArray)) else (if a0 < 0 then ((spec_l6Dec.f k (wrap64 (-a0))).bind fun t193=>(if 1 + t193.size ≤ 9223372036854775807 then (some ((⟨#[45]⟩:ByteArray) ++ t193)) else (none))) else (if a0 < 10 then (some (strOfNums (([(wrap64 (48 + a0)) % 256]:List Int)))) else ((spec_l6Dec.f k (wrap64 (Int.tdiv a0 10))).bind fun t197=>((some (([(wrap64 (48 + (Int.tmod a0 10))) % 256]:List Int):List Int)).bind fun y198=>(if t197.size + (strOfNums y198).size ≤ 9223372036854775807 then (some (t197 ++ (strOfNums y198))) else (none))))))
theorem spec_l6Dec.mono_l:∀ k,(∀ y0,LeO (spec_l6Dec.f k y0) (spec_l6Dec.f (k + 1) y0))
 | 0=>fun _ r h=>by simp [spec_l6Dec.f] at h
 | k + 1=>by
  have ih0:=spec_l6Dec.mono_l k
  ·intro y0
   unfold spec_l6Dec.f
   repeat' first
   | (with_reducible exact ih0 _)
   | (with_reducible exact LeO.refl _)
   | (with_reducible exact LeO.none _)
   | (with_reducible refine LeO.ite ?_ ?_)
   | (with_reducible refine LeO.bind ?_ (fun _=>?_))
   | exact ih0 _
   | exact LeO.none _
   | refine LeO.ite ?_ ?_
   | refine LeO.bind ?_ (fun _=>?_)
theorem spec_l6Dec.mono:∀ a0 k,LeO (spec_l6Dec.f k a0) (spec_l6Dec.f (k + 1) a0):=by
 intro a0 k
 have ih0:=spec_l6Dec.mono_l k
 exact ih0 a0
def spec_l6Dec.T7:Bool × List (List Nat × List Nat):=(true,[([],[]),([0],[0]),([1],[1]),([],[]),([3],[3]),([4],[4]),([5],[5]),([6],[6]),([7],[7]),([2,8],[2,8]),([9,2,0,1,2,3,4,5,6,7,8,9],[9])])
def spec_l6Dec.B7:List Nat:=[0,1,3,0,8,24,56,120,248,511,1023]
theorem spec_l6Dec.tab7:rtab .any (opsOf Tryd.f62 7) = spec_l6Dec.T7:=by kernel_rfl
theorem spec_l6Dec.bits7:waitsOk spec_l6Dec.T7.2 spec_l6Dec.B7 = true:=by kernel_rfl
set_option maxHeartbeats 8000000 in
set_option maxRecDepth 100000 in
theorem spec_l6Dec.calls (k:Nat):∀ (a0:Int) (r:ByteArray) (w:World) (h:spec_l6Dec.f k a0 = some r),
  Calls Tryd.prog 62 #[.int .i64 a0] w fun e w'=>e = .returned (.string r)∧Below w.heap.size w w':=by
 induction k using Nat.strongRecOn with
 | _ k ih =>
 intro a0 r w h
 cases k with
 | zero=>exact absurd h (by simp [spec_l6Dec.f])
 | succ k =>
 simp only [spec_l6Dec.f] at h
 have HB:=Aside0.mk (Below.refl w.heap.size w)
 have H:(if a0 < (-9223372036854775807) then (some (⟨#[45,57,50,50,51,51,55,50,48,51,54,56,53,52,55,55,53,56,48,56]⟩:ByteArray)) else (if a0 < 0 then ((spec_l6Dec.f k (wrap64 (-a0))).bind fun t193=>(if 1 + t193.size ≤ 9223372036854775807 then (some ((⟨#[45]⟩:ByteArray) ++ t193)) else (none))) else (if a0 < 10 then (some (strOfNums (([(wrap64 (48 + a0)) % 256]:List Int)))) else ((spec_l6Dec.f k (wrap64 (Int.tdiv a0 10))).bind fun t197=>((some (([(wrap64 (48 + (Int.tmod a0 10))) % 256]:List Int):List Int)).bind fun y198=>(if t197.size + (strOfNums y198).size ≤ 9223372036854775807 then (some (t197 ++ (strOfNums y198))) else (none))))))) = some r:=h
 clear h
 by_cases c2:a0 < (-9223372036854775807)
 ·rw [if_pos c2] at H
  have c2b0:decide (a0 < (-9223372036854775807)) = true:=decide_eq_true c2
  clear c2
  obtain rfl:=Option.some.inj H
  go_enter Tryd.func62,Tryd.ntmps62
  go_wp2
  go_ret
  exact ⟨by first | rfl | (simp [errW_none,errW_some] <;> rfl) | (simp [*,errW_none,errW_some] <;> rfl),by repeat (first | (with_reducible first | exact HB.out | apply below_alloc | apply pw_below_drewN | apply below_drew1) | exact HB.out)⟩
 ·rw [if_neg c2] at H
  have c2b0:decide (a0 < (-9223372036854775807)) = false:=decide_eq_false c2
  clear c2
  by_cases c3:a0 < 0
  ·rw [if_pos c3] at H
   have c3b0:decide (a0 < 0) = true:=decide_eq_true c3
   clear c3
   replace H:=Option.bind_eq_some_iff.mp H
   obtain ⟨t193,A40,H⟩:=H
   replace H:(if 1 + t193.size ≤ 9223372036854775807 then (some ((⟨#[45]⟩:ByteArray) ++ t193)) else (none)) = some r:=H
   have A4:=Aside0.mk A40
   clear A40
   by_cases c5:1 + t193.size ≤ 9223372036854775807
   ·rw [if_pos c5] at H
    have c5b0:=eq_true c5
    have c5b1:decide (1 + t193.size ≤ 9223372036854775807) = true:=decide_eq_true c5
    try have c5b2:(9223372036854775807 < 1 + t193.size) = False:=eq_false (Nat.not_lt.2 c5)
    obtain rfl:=Option.some.inj H
    go_enter Tryd.func62,Tryd.ntmps62
    go_wp2_with (first | ((with_reducible refine gate_callee (f:=62) rfl ?_);refine goesL_ (some 9) rfl rfl Tryd.func62 (by kernel_rfl) rfl #[.int .i64 (wrap64 (-a0))] rfl (by (try simp only [List.map_toArray,List.map_cons,List.map_nil]);first | done | rfl | (simp only [List.length_drop,List.length_take];rfl)) ?_;(with_reducible refine (ih k (by omega) (wrap64 (-a0)) t193 _ A4.out).mono ?_);rintro e w6 ⟨rfl,hb⟩;refine ⟨_,rfl,?_⟩;have n0_:=Aside0.mk (below_step (by repeat (first | (with_reducible first | exact HB.out | apply below_alloc | apply pw_below_drewN | apply below_drew1) | exact HB.out)) hb);clear HB;have HB:=n0_;clear n0_;(try clear hb);(try clear hb2);(try clear hk);(try clear hi)))
    go_ret
    exact ⟨by first | rfl | (simp [errW_none,errW_some] <;> rfl) | (simp [*,errW_none,errW_some] <;> rfl),by repeat (first | (with_reducible first | exact HB.out | apply below_alloc | apply pw_below_drewN | apply below_drew1) | exact HB.out)⟩
   ·rw [if_neg c5] at H
    exact absurd H (by simp)
  ·rw [if_neg c3] at H
   have c3b0:decide (a0 < 0) = false:=decide_eq_false c3
   clear c3
   by_cases c7:a0 < 10
   ·rw [if_pos c7] at H
    have c7b0:decide (a0 < 10) = true:=decide_eq_true c7
    clear c7
    obtain ⟨y194,hy194⟩:∃ y_:List Int,y_ = (([(wrap64 (48 + a0)) % 256]:List Int)):=⟨_,rfl⟩
    replace H:(some (strOfNums y194)) = some r:=by first | (rw [hy194];with_reducible exact H) | (have H2_:=(Option.bind_some _ _).symm.trans H;rw [hy194];with_reducible exact H2_) | (have H2_:=(Option.bind_some _ _).symm.trans H;with_reducible exact H2_) | with_reducible exact H | (rw [hy194];exact H) | exact H
    have Ny194:=Aside0.mk hy194
    clear hy194
    obtain rfl:=Option.some.inj H
    go_enter Tryd.func62,Tryd.ntmps62
    go_wp2_with (first | ((with_reducible refine gate_dst (N:=16) rfl ?_);refine Kd.R_lit (Kd.int .u8) _ 5 ?hg (N:=16) ?hd (xs:=([(wrap64 (48 + a0)) % 256]:List Int)) (inner:=[.int .u8 ((wrap64 (48 + a0)) % 256)]) (ok:=fun _=>True) (okp:=fun _=>True) ?hr ?hp (fun _ hk=>hk) trivial (Below.refl _ _) (Nat.le_refl _) (by simp) ?_;(case hd=>rfl);(case hg=>rfl);(case hr=>first | (go_simp;done) | (go_simp;rfl));(case hp=>exact (Reps.one (show Kd.M (Kd.int .u8) _ _ _ ((wrap64 (48 + a0)) % 256) [.int .u8 ((wrap64 (48 + a0)) % 256)] from rfl) (Reps.none _ _)));intro v195 w8 ho9 hb hg_ hnew_;clear hg_ hnew_;(first | rw [← Ny194.out] at ho9 | (simp only [Int.reduceToNat] at ho9;rw [← Ny194.out] at ho9));have n0_:=Aside0.mk (Kd.R_lower ho9 (below_size (by repeat (first | (with_reducible first | exact HB.out | apply below_alloc | apply pw_below_drewN | apply below_drew1) | exact HB.out))));have n1_:=Aside0.mk (below_step (by repeat (first | (with_reducible first | exact HB.out | apply below_alloc | apply pw_below_drewN | apply below_drew1) | exact HB.out)) hb);clear HB;have HO196:=n0_;have HB:=n1_;clear n0_ n1_;clear hb ho9;have hcv10:=own_string (P:=Tryd.prog) Tryd.underlying22 Tryd.underlying5 Tryd.underlying9 (Kd.own_of_R HO196.out)))
    go_ret
    exact ⟨by first | rfl | (simp [errW_none,errW_some] <;> rfl) | (simp [*,errW_none,errW_some] <;> rfl),by repeat (first | (with_reducible first | exact HB.out | apply below_alloc | apply pw_below_drewN | apply below_drew1) | exact HB.out)⟩
   ·rw [if_neg c7] at H
    have c7b0:decide (a0 < 10) = false:=decide_eq_false c7
    clear c7
    replace H:=Option.bind_eq_some_iff.mp H
    obtain ⟨t197,A110,H⟩:=H
    replace H:((some (([(wrap64 (48 + (Int.tmod a0 10))) % 256]:List Int):List Int)).bind fun y198=>(if t197.size + (strOfNums y198).size ≤ 9223372036854775807 then (some (t197 ++ (strOfNums y198))) else (none))) = some r:=H
    have A11:=Aside0.mk A110
    clear A110
    obtain ⟨y198,hy198⟩:∃ y_:List Int,y_ = (([(wrap64 (48 + (Int.tmod a0 10))) % 256]:List Int)):=⟨_,rfl⟩
    replace H:(if t197.size + (strOfNums y198).size ≤ 9223372036854775807 then (some (t197 ++ (strOfNums y198))) else (none)) = some r:=by first | (rw [hy198];with_reducible exact H) | (have H2_:=(Option.bind_some _ _).symm.trans H;rw [hy198];with_reducible exact H2_) | (have H2_:=(Option.bind_some _ _).symm.trans H;with_reducible exact H2_) | with_reducible exact H | (rw [hy198];exact H) | exact H
    have Ny198:=Aside0.mk hy198
    clear hy198
    by_cases c12:t197.size + (strOfNums y198).size ≤ 9223372036854775807
    ·rw [if_pos c12] at H
     have c12b0:=eq_true c12
     have c12b1:decide (t197.size + (strOfNums y198).size ≤ 9223372036854775807) = true:=decide_eq_true c12
     try have c12b2:(9223372036854775807 < t197.size + (strOfNums y198).size) = False:=eq_false (Nat.not_lt.2 c12)
     obtain rfl:=Option.some.inj H
     go_enter Tryd.func62,Tryd.ntmps62
     try go_wp2
     have n0_:=Aside0.mk (below_drew1 HB.out)
     clear HB
     have HB:=n0_
     clear n0_
     refine start_ (n:=11) (S:=fun w'=>True) (ds:=[]) #[false,false,false,false,false,false,false,false,false,false,false] (by kernel_rfl) rfl rfl trivial (fun hHeld=>?_);refine with_tabW spec_l6Dec.tab7 spec_l6Dec.bits7 (fun HT_ HW_=>?_)
     generalize w.drew = w13 at HB hHeld ⊢
     refine pure_ (i:=0) (N:=some 18) (v:=?_) (a':=?_) #[true,false,false,false,false,false,false,false,false,false,false] rfl rfl (any_of HT_.out (by kernel_rfl)) (fun _ _ _ h=>h) (Or.inl ⟨by rfl,?_⟩) ?_ ?_
     rotate_left;·intro w';go_simp;with_reducible rfl
     rotate_left;·simp only [Act.put,List.setIfInBounds_toArray,List.set_cons_zero,List.set_cons_succ,i64_w,i32_w];rfl
     refine pure_ (i:=1) (N:=some 19) (v:=?_) (a':=?_) #[true,true,false,false,false,false,false,false,false,false,false] rfl rfl (any_of HT_.out (by kernel_rfl)) (fun _ _ _ h=>h) (Or.inl ⟨by rfl,?_⟩) ?_ ?_
     rotate_left;·intro w';go_simp;with_reducible rfl
     rotate_left;·simp only [Act.put,List.setIfInBounds_toArray,List.set_cons_zero,List.set_cons_succ,i64_w,i32_w];rfl
     refine pure_ (i:=3) (N:=some 21) (v:=?_) (a':=?_) #[true,true,false,true,false,false,false,false,false,false,false] rfl rfl (any_of HT_.out (by kernel_rfl)) (fun _ _ _ h=>h) (Or.inl ⟨by rfl,?_⟩) ?_ ?_
     rotate_left;·intro w';go_simp;with_reducible rfl
     rotate_left;·simp only [Act.put,List.setIfInBounds_toArray,List.set_cons_zero,List.set_cons_succ,i64_w,i32_w];rfl
     refine pure_ (i:=4) (N:=some 22) (v:=?_) (a':=?_) #[true,true,false,true,true,false,false,false,false,false,false] rfl rfl (any_of HT_.out (by kernel_rfl)) (fun _ _ _ h=>h) (Or.inl ⟨by rfl,?_⟩) ?_ ?_
     rotate_left;·intro w';go_simp;with_reducible rfl
     rotate_left;·simp only [Act.put,List.setIfInBounds_toArray,List.set_cons_zero,List.set_cons_succ,i64_w,i32_w];rfl
     refine pure_ (i:=5) (N:=some 23) (v:=?_) (a':=?_) #[true,true,false,true,true,true,false,false,false,false,false] rfl rfl (any_of HT_.out (by kernel_rfl)) (fun _ _ _ h=>h) (Or.inl ⟨by rfl,?_⟩) ?_ ?_
     rotate_left;·intro w';go_simp;with_reducible rfl
     rotate_left;·simp only [Act.put,List.setIfInBounds_toArray,List.set_cons_zero,List.set_cons_succ,i64_w,i32_w];rfl
     refine pure_ (i:=6) (N:=some 24) (v:=?_) (a':=?_) #[true,true,false,true,true,true,true,false,false,false,false] rfl rfl (any_of HT_.out (by kernel_rfl)) (fun _ _ _ h=>h) (Or.inl ⟨by rfl,?_⟩) ?_ ?_
     rotate_left;·intro w';go_simp;with_reducible rfl
     rotate_left;·simp only [Act.put,List.setIfInBounds_toArray,List.set_cons_zero,List.set_cons_succ,i64_w,i32_w];rfl
     refine join_ (σ:=Value) 2 #[true,true,true,true,true,true,true,true,true,false,false] (fun s_=>[(20,.string t197),(25,s_),(26,.string (strOfNums y198))]) (fun s_ w'=>(Kd.R (Kd.int .u8) 5 w' w.heap.size (fun _=>True) s_ y198)∧(Below w.heap.size w w')) ?_ ?_
     rotate_left
     ·intro hCont
      refine two_ (i:=2) (j:=7) (Ni:=some 20) (Nj:=some 25) #[true,true,true,true,true,true,true,false,false,false,false] #[true,true,false,true,true,true,true,true,false,false,false] rfl rfl rfl rfl (two_of HT_.out (by kernel_rfl)) (by decide) (by decide) (fun K hK=>?_) (fun K hK=>?_)
      ·skip
       refine goes_ Tryd.func62 (by kernel_rfl) rfl #[.int .i64 (wrap64 (Int.tdiv a0 10))] (by rfl) rfl rfl (by (try simp only [List.map_toArray,List.map_cons,List.map_nil]);first | done | rfl | (simp only [List.length_drop,List.length_take];rfl)) ?_
       with_reducible refine (ih k (by omega) (wrap64 (Int.tdiv a0 10)) t197 _ A11.out).mono ?_
       rintro e w14 ⟨rfl,hb⟩
       refine ⟨_,rfl,?_⟩
       have n0_:=Aside0.mk (below_step (by repeat (first | (with_reducible first | exact HB.out | apply below_alloc | apply pw_below_drewN | apply below_drew1) | exact HB.out)) hb)
       clear HB
       have HB:=n0_
       clear n0_
       (try clear hb)
       (try clear hb2)
       (try clear hk)
       (try clear hi)
       refine hK.out _ _ trivial (fun hHeld=>?_)
       clear hK K
       refine norm_ (a':=?_) ?_ ?_
       rotate_left
       ·show Act.put _ (some 20) _ = _
        simp only [Act.put,List.setIfInBounds_toArray,List.set_cons_zero,List.set_cons_succ,i64_w,i32_w]
        rfl
       refine one_ (i:=7) (N:=some 25) #[true,true,true,true,true,true,true,true,false,false,false] rfl rfl (one_of HT_.out (by kernel_rfl)) (by decide) (fun K hK=>?_)
       refine Kd.R_lit_step (Kd.int .u8) _ 5 ?hg (N:=25) ?hd (xs:=([(wrap64 (48 + (Int.tmod a0 10))) % 256]:List Int)) (inner:=[.int .u8 ((wrap64 (48 + (Int.tmod a0 10))) % 256)]) (ok:=fun _=>True) (okp:=fun _=>True) ?hr ?hp (fun _ hk=>hk) trivial (Below.refl _ _) (Nat.le_refl _) (by simp) ?_;(case hd=>rfl);(case hg=>rfl);(case hr=>first | (go_simp;done) | (go_simp;rfl));(case hp=>exact (Reps.one (show Kd.M (Kd.int .u8) _ _ _ ((wrap64 (48 + (Int.tmod a0 10))) % 256) [.int .u8 ((wrap64 (48 + (Int.tmod a0 10))) % 256)] from rfl) (Reps.none _ _)))
       intro v199 w15 ho16 hb hg_ hnew_
       clear hg_ hnew_
       (first | rw [← Ny198.out] at ho16 | (simp only [Int.reduceToNat] at ho16;rw [← Ny198.out] at ho16))
       have n0_:=Aside0.mk (Kd.R_lower ho16 (below_size (by repeat (first | (with_reducible first | exact HB.out | apply below_alloc | apply pw_below_drewN | apply below_drew1) | exact HB.out))))
       have n1_:=Aside0.mk (below_step (by repeat (first | (with_reducible first | exact HB.out | apply below_alloc | apply pw_below_drewN | apply below_drew1) | exact HB.out)) hb)
       clear HB
       have HO200:=n0_
       have HB:=n1_
       clear n0_ n1_
       clear hb ho16
       refine hK.out _ _ trivial (fun hHeld=>?_)
       clear hK K
       refine norm_ (a':=?_) ?_ ?_
       rotate_left
       ·show Act.put _ (some 25) _ = _
        simp only [Act.put,List.setIfInBounds_toArray,List.set_cons_zero,List.set_cons_succ,i64_w,i32_w]
        rfl
       refine one_ (i:=8) (N:=some 26) #[true,true,true,true,true,true,true,true,true,false,false] rfl rfl (one_of HT_.out (by kernel_rfl)) (by decide) (fun K hK=>?_)
       have hcv17:=own_string (P:=Tryd.prog) Tryd.underlying22 Tryd.underlying5 Tryd.underlying9 (Kd.own_of_R HO200.out)
       refine value_ (w1:=?_) (v:=?_) (by rfl) rfl ?_ ?_
       rotate_left 2
       ·go_simp
        constructor
        ·rfl
        ·rfl
       clear hcv17
       refine hK.out _ _ trivial (fun hHeld=>?_)
       clear hK K
       refine norm_ (a':=?_) ?_ ?_
       rotate_left
       ·show Act.put _ (some 26) _ = _
        simp only [Act.put,List.setIfInBounds_toArray,List.set_cons_zero,List.set_cons_succ,i64_w,i32_w]
        rfl
       exact norm_ (by simp only [putAll,Act.put,List.setIfInBounds_toArray,List.set_cons_zero,List.set_cons_succ]) (hCont (v199) _ ⟨(by (with_reducible repeat (first | apply Kd.R_alloc | apply Kd.R_drewN | apply Kd.R_drew));exact HO200.out),(by repeat (first | (with_reducible first | exact HB.out | apply below_alloc | apply pw_below_drewN | apply below_drew1) | exact HB.out))⟩)
      ·skip
       refine Kd.R_lit_step (Kd.int .u8) _ 5 ?hg (N:=25) ?hd (xs:=([(wrap64 (48 + (Int.tmod a0 10))) % 256]:List Int)) (inner:=[.int .u8 ((wrap64 (48 + (Int.tmod a0 10))) % 256)]) (ok:=fun _=>True) (okp:=fun _=>True) ?hr ?hp (fun _ hk=>hk) trivial (Below.refl _ _) (Nat.le_refl _) (by simp) ?_;(case hd=>rfl);(case hg=>rfl);(case hr=>first | (go_simp;done) | (go_simp;rfl));(case hp=>exact (Reps.one (show Kd.M (Kd.int .u8) _ _ _ ((wrap64 (48 + (Int.tmod a0 10))) % 256) [.int .u8 ((wrap64 (48 + (Int.tmod a0 10))) % 256)] from rfl) (Reps.none _ _)))
       intro v199 w14 ho15 hb hg_ hnew_
       clear hg_ hnew_
       (first | rw [← Ny198.out] at ho15 | (simp only [Int.reduceToNat] at ho15;rw [← Ny198.out] at ho15))
       have n0_:=Aside0.mk (Kd.R_lower ho15 (below_size (by repeat (first | (with_reducible first | exact HB.out | apply below_alloc | apply pw_below_drewN | apply below_drew1) | exact HB.out))))
       have n1_:=Aside0.mk (below_step (by repeat (first | (with_reducible first | exact HB.out | apply below_alloc | apply pw_below_drewN | apply below_drew1) | exact HB.out)) hb)
       clear HB
       have HO200:=n0_
       have HB:=n1_
       clear n0_ n1_
       clear hb ho15
       refine hK.out _ _ trivial (fun hHeld=>?_)
       clear hK K
       refine norm_ (a':=?_) ?_ ?_
       rotate_left
       ·show Act.put _ (some 25) _ = _
        simp only [Act.put,List.setIfInBounds_toArray,List.set_cons_zero,List.set_cons_succ,i64_w,i32_w]
        rfl
       refine two_ (i:=2) (j:=8) (Ni:=some 20) (Nj:=some 26) #[true,true,true,true,true,true,true,true,false,false,false] #[true,true,false,true,true,true,true,true,true,false,false] rfl rfl rfl rfl (two_of HT_.out (by kernel_rfl)) (by decide) (by decide) (fun K hK=>?_) (fun K hK=>?_)
       ·skip
        refine goes_ Tryd.func62 (by kernel_rfl) rfl #[.int .i64 (wrap64 (Int.tdiv a0 10))] (by rfl) rfl rfl (by (try simp only [List.map_toArray,List.map_cons,List.map_nil]);first | done | rfl | (simp only [List.length_drop,List.length_take];rfl)) ?_
        with_reducible refine (ih k (by omega) (wrap64 (Int.tdiv a0 10)) t197 _ A11.out).mono ?_
        rintro e w16 ⟨rfl,hb⟩
        refine ⟨_,rfl,?_⟩
        have n0_:=Aside0.mk (Kd.R_below (by (with_reducible repeat (first | apply Kd.R_alloc | apply Kd.R_drewN | apply Kd.R_drew));exact HO200.out) hb)
        have n1_:=Aside0.mk (below_step (by repeat (first | (with_reducible first | exact HB.out | apply below_alloc | apply pw_below_drewN | apply below_drew1) | exact HB.out)) hb)
        clear HO200
        clear HB
        have HO200:=n0_
        have HB:=n1_
        clear n0_ n1_
        (try clear hb)
        (try clear hb2)
        (try clear hk)
        (try clear hi)
        refine hK.out _ _ trivial (fun hHeld=>?_)
        clear hK K
        refine norm_ (a':=?_) ?_ ?_
        rotate_left
        ·show Act.put _ (some 20) _ = _
         simp only [Act.put,List.setIfInBounds_toArray,List.set_cons_zero,List.set_cons_succ,i64_w,i32_w]
         rfl
        refine one_ (i:=8) (N:=some 26) #[true,true,true,true,true,true,true,true,true,false,false] rfl rfl (one_of HT_.out (by kernel_rfl)) (by decide) (fun K hK=>?_)
        have hcv17:=own_string (P:=Tryd.prog) Tryd.underlying22 Tryd.underlying5 Tryd.underlying9 (Kd.own_of_R HO200.out)
        refine value_ (w1:=?_) (v:=?_) (by rfl) rfl ?_ ?_
        rotate_left 2
        ·go_simp
         constructor
         ·rfl
         ·rfl
        clear hcv17
        refine hK.out _ _ trivial (fun hHeld=>?_)
        clear hK K
        refine norm_ (a':=?_) ?_ ?_
        rotate_left
        ·show Act.put _ (some 26) _ = _
         simp only [Act.put,List.setIfInBounds_toArray,List.set_cons_zero,List.set_cons_succ,i64_w,i32_w]
         rfl
        exact norm_ (by simp only [putAll,Act.put,List.setIfInBounds_toArray,List.set_cons_zero,List.set_cons_succ]) (hCont (v199) _ ⟨(by (with_reducible repeat (first | apply Kd.R_alloc | apply Kd.R_drewN | apply Kd.R_drew));exact HO200.out),(by repeat (first | (with_reducible first | exact HB.out | apply below_alloc | apply pw_below_drewN | apply below_drew1) | exact HB.out))⟩)
       ·skip
        have hcv16:=own_string (P:=Tryd.prog) Tryd.underlying22 Tryd.underlying5 Tryd.underlying9 (Kd.own_of_R HO200.out)
        refine value_ (w1:=?_) (v:=?_) (by rfl) rfl ?_ ?_
        rotate_left 2
        ·go_simp
         constructor
         ·rfl
         ·rfl
        clear hcv16
        refine hK.out _ _ trivial (fun hHeld=>?_)
        clear hK K
        refine norm_ (a':=?_) ?_ ?_
        rotate_left
        ·show Act.put _ (some 26) _ = _
         simp only [Act.put,List.setIfInBounds_toArray,List.set_cons_zero,List.set_cons_succ,i64_w,i32_w]
         rfl
        refine one_ (i:=2) (N:=some 20) #[true,true,true,true,true,true,true,true,true,false,false] rfl rfl (one_of HT_.out (by kernel_rfl)) (by decide) (fun K hK=>?_)
        refine goes_ Tryd.func62 (by kernel_rfl) rfl #[.int .i64 (wrap64 (Int.tdiv a0 10))] (by rfl) rfl rfl (by (try simp only [List.map_toArray,List.map_cons,List.map_nil]);first | done | rfl | (simp only [List.length_drop,List.length_take];rfl)) ?_
        with_reducible refine (ih k (by omega) (wrap64 (Int.tdiv a0 10)) t197 _ A11.out).mono ?_
        rintro e w17 ⟨rfl,hb⟩
        refine ⟨_,rfl,?_⟩
        have n0_:=Aside0.mk (Kd.R_below (by (with_reducible repeat (first | apply Kd.R_alloc | apply Kd.R_drewN | apply Kd.R_drew));exact HO200.out) hb)
        have n1_:=Aside0.mk (below_step (by repeat (first | (with_reducible first | exact HB.out | apply below_alloc | apply pw_below_drewN | apply below_drew1) | exact HB.out)) hb)
        clear HO200
        clear HB
        have HO200:=n0_
        have HB:=n1_
        clear n0_ n1_
        (try clear hb)
        (try clear hb2)
        (try clear hk)
        (try clear hi)
        refine hK.out _ _ trivial (fun hHeld=>?_)
        clear hK K
        refine norm_ (a':=?_) ?_ ?_
        rotate_left
        ·show Act.put _ (some 20) _ = _
         simp only [Act.put,List.setIfInBounds_toArray,List.set_cons_zero,List.set_cons_succ,i64_w,i32_w]
         rfl
        exact norm_ (by simp only [putAll,Act.put,List.setIfInBounds_toArray,List.set_cons_zero,List.set_cons_succ]) (hCont (v199) _ ⟨(by (with_reducible repeat (first | apply Kd.R_alloc | apply Kd.R_drewN | apply Kd.R_drew));exact HO200.out),(by repeat (first | (with_reducible first | exact HB.out | apply below_alloc | apply pw_below_drewN | apply below_drew1) | exact HB.out))⟩)
     rintro v199 w18 ⟨h0_,h1_⟩
     have n0_:Aside0 (Kd.R (Kd.int .u8) 5 w18 w.heap.size (fun _=>True) v199 y198):=⟨h0_⟩
     have n1_:Aside0 (Below w.heap.size w w18):=⟨h1_⟩
     clear HB
     clear h0_ h1_
     have HO200:=n0_
     have HB:=n1_
     clear n0_ n1_
     have hHeld:=trivial
     refine norm_ (a':=?_) ?_ ?_
     rotate_left;·simp only [putAll,Act.put,List.setIfInBounds_toArray,List.set_cons_zero,List.set_cons_succ];rfl
     refine pure_ (i:=9) (N:=some 27) (v:=?_) (a':=?_) #[true,true,true,true,true,true,true,true,true,true,false] rfl rfl (any_of HT_.out (by kernel_rfl)) (fun _ _ _ h=>h) (Or.inl ⟨by rfl,?_⟩) ?_ ?_
     rotate_left;·intro w';go_simp;with_reducible rfl
     rotate_left;·simp only [Act.put,List.setIfInBounds_toArray,List.set_cons_zero,List.set_cons_succ,i64_w,i32_w];rfl
     refine pure_ (i:=10) (N:=some 2) (v:=?_) (a':=?_) #[true,true,true,true,true,true,true,true,true,true,true] rfl rfl (any_of HT_.out (by kernel_rfl)) (fun _ _ _ h=>h) (Or.inl ⟨by rfl,?_⟩) ?_ ?_
     rotate_left;·intro w';go_simp;with_reducible rfl
     rotate_left;·simp only [Act.put,List.setIfInBounds_toArray,List.set_cons_zero,List.set_cons_succ,i64_w,i32_w];rfl
     refine done_ (done_of HT_.out (by kernel_rfl)) ?_
     try go_wp2
     go_ret
     exact ⟨by first | rfl | (simp [errW_none,errW_some] <;> rfl) | (simp [*,errW_none,errW_some] <;> rfl),by repeat (first | (with_reducible first | exact HB.out | apply below_alloc | apply pw_below_drewN | apply below_drew1) | exact HB.out)⟩
    ·rw [if_neg c12] at H
     exact absurd H (by simp)
def spec_l20Text.f:Nat → Int → Int → List (S25) → Option (ByteArray)
 | 0,_,_,_=>none
 | k + 1,a0_0,a0_1,l0_2=>if a0_0 = 0 then ((spec_l6Dec.f k a0_1).bind fun t202=>(if 1 + t202.size ≤ 9223372036854775807 then (some ((⟨#[109]⟩:ByteArray) ++ t202)) else (none))) else (if a0_0 = 1 then (if 0 < (l0_2.length:Int) then ((spec_l20Text.f k ((rd_T25 l0_2 0).f0) ((rd_T25 l0_2 0).f1) ((rd_T25 l0_2 0).f2)).bind fun t204=>(if 1 + t204.size ≤ 9223372036854775807 then (if ((⟨#[40]⟩:ByteArray) ++ t204).size + 1 ≤ 9223372036854775807 then (if 1 < (l0_2.length:Int) then ((spec_l20Text.f k ((rd_T25 l0_2 1).f0) ((rd_T25 l0_2 1).f1) ((rd_T25 l0_2 1).f2)).bind fun t206=>(if (((⟨#[40]⟩:ByteArray) ++ t204) ++ (⟨#[32]⟩:ByteArray)).size + t206.size ≤ 9223372036854775807 then (if ((((⟨#[40]⟩:ByteArray) ++ t204) ++ (⟨#[32]⟩:ByteArray)) ++ t206).size + 1 ≤ 9223372036854775807 then (some (((((⟨#[40]⟩:ByteArray) ++ t204) ++ (⟨#[32]⟩:ByteArray)) ++ t206) ++ (⟨#[41]⟩:ByteArray))) else (none)) else (none))) else (none)) else (none)) else (none))) else (none)) else (if 1 < (l0_2.length:Int) then ((spec_l20Text.f k ((rd_T25 l0_2 1).f0) ((rd_T25 l0_2 1).f1) ((rd_T25 l0_2 1).f2)).bind fun t208=>(if 1 + t208.size ≤ 9223372036854775807 then (if ((⟨#[123]⟩:ByteArray) ++ t208).size + 1 ≤ 9223372036854775807 then (if 0 < (l0_2.length:Int) then ((spec_l20Text.f k ((rd_T25 l0_2 0).f0) ((rd_T25 l0_2 0).f1) ((rd_T25 l0_2 0).f2)).bind fun t210=>(if (((⟨#[123]⟩:ByteArray) ++ t208) ++ (⟨#[125]⟩:ByteArray)).size + t210.size ≤ 9223372036854775807 then (some ((((⟨#[123]⟩:ByteArray) ++ t208) ++ (⟨#[125]⟩:ByteArray)) ++ t210)) else (none))) else (none)) else (none)) else (none))) else (none)))
theorem spec_l20Text.mono_l:∀ k,(∀ y0 y1 y2,LeO (spec_l20Text.f k y0 y1 y2) (spec_l20Text.f (k + 1) y0 y1 y2))
 | 0=>fun _ _ _ r h=>by simp [spec_l20Text.f] at h
 | k + 1=>by
  have ih0:=spec_l20Text.mono_l k
  ·intro y0 y1 y2
   unfold spec_l20Text.f
   repeat' first
   | (with_reducible exact ih0 _ _ _)
   | (with_reducible exact spec_l6Dec.mono _ _)
   | (with_reducible exact LeO.refl _)
   | (with_reducible exact LeO.none _)
   | (with_reducible refine LeO.ite ?_ ?_)
   | (with_reducible refine LeO.bind ?_ (fun _=>?_))
   | exact ih0 _ _ _
   | exact spec_l6Dec.mono _ _
   | exact LeO.none _
   | refine LeO.ite ?_ ?_
   | refine LeO.bind ?_ (fun _=>?_)
theorem spec_l20Text.mono:∀ a0 a1 a2 k,LeO (spec_l20Text.f k a0 a1 a2) (spec_l20Text.f (k + 1) a0 a1 a2):=by
 intro a0 a1 a2 k
 have ih0:=spec_l20Text.mono_l k
 exact ih0 a0 a1 a2
def spec_l20Text.T5:Bool × List (List Nat × List Nat):=(true,[([],[]),([0],[0]),([1],[1]),([2],[2]),([3],[3]),([4],[4]),([5],[5]),([],[]),([7],[7]),([8],[8]),([9],[9]),([10,4],[10]),([6,11],[6,11]),([12],[12]),([13,11,0,1,2,3,4,5,6,7,8,9,10,11,12,13],[13])])
def spec_l20Text.B5:List Nat:=[0,1,3,7,15,31,63,0,128,384,896,1951,4095,8191,16383]
theorem spec_l20Text.tab5:rtab .any (opsOf Tryd.f48 5) = spec_l20Text.T5:=by kernel_rfl
theorem spec_l20Text.bits5:waitsOk spec_l20Text.T5.2 spec_l20Text.B5 = true:=by kernel_rfl
def spec_l20Text.T6:Bool × List (List Nat × List Nat):=(true,[([],[]),([0],[0]),([1],[1]),([2],[2]),([3],[3]),([4],[4]),([5],[5]),([],[]),([7],[7]),([8],[8]),([9],[9]),([10,4],[10]),([6,11],[6,11]),([12,11,0,1,2,3,4,5,6,7,8,9,10,11,12],[12])])
def spec_l20Text.B6:List Nat:=[0,1,3,7,15,31,63,0,128,384,896,1951,4095,8191]
theorem spec_l20Text.tab6:rtab .any (opsOf Tryd.f48 6) = spec_l20Text.T6:=by kernel_rfl
theorem spec_l20Text.bits6:waitsOk spec_l20Text.T6.2 spec_l20Text.B6 = true:=by kernel_rfl
set_option maxHeartbeats 8000000 in
set_option maxRecDepth 100000 in
theorem spec_l20Text.calls (k:Nat):∀ (a0_0:Int) (a0_1:Int) (A0_2:Option Addr) (c0_2:Nat) (l0_2:List (S25)) (r:ByteArray) (w:World) (hr0_2:Kd.C k25 w A0_2 l0_2.length l0_2) (hc0_2:l0_2.length ≤ c0_2) (h:spec_l20Text.f k a0_0 a0_1 l0_2 = some r),
  Calls Tryd.prog 48 #[.agg #[.int .i64 a0_0,.int .i64 a0_1,.slice A0_2 l0_2.length c0_2]] w fun e w'=>e = .returned (.string r)∧Below w.heap.size w w':=by
 induction k using Nat.strongRecOn with
 | _ k ih =>
 intro a0_0 a0_1 A0_2 c0_2 l0_2 r w hr0_2 hc0_2 h
 cases k with
 | zero=>exact absurd h (by simp [spec_l20Text.f])
 | succ k =>
 simp only [spec_l20Text.f] at h
 have hu25:=Tryd.underlying25
 have HR0_2:=Aside0.mk hr0_2
 have HC0_2:=Aside0.mk hc0_2
 clear hr0_2 hc0_2
 have HB:=Aside0.mk (Below.refl w.heap.size w)
 have H:(if a0_0 = 0 then ((spec_l6Dec.f k a0_1).bind fun t202=>(if 1 + t202.size ≤ 9223372036854775807 then (some ((⟨#[109]⟩:ByteArray) ++ t202)) else (none))) else (if a0_0 = 1 then (if 0 < (l0_2.length:Int) then ((spec_l20Text.f k ((rd_T25 l0_2 0).f0) ((rd_T25 l0_2 0).f1) ((rd_T25 l0_2 0).f2)).bind fun t204=>(if 1 + t204.size ≤ 9223372036854775807 then (if ((⟨#[40]⟩:ByteArray) ++ t204).size + 1 ≤ 9223372036854775807 then (if 1 < (l0_2.length:Int) then ((spec_l20Text.f k ((rd_T25 l0_2 1).f0) ((rd_T25 l0_2 1).f1) ((rd_T25 l0_2 1).f2)).bind fun t206=>(if (((⟨#[40]⟩:ByteArray) ++ t204) ++ (⟨#[32]⟩:ByteArray)).size + t206.size ≤ 9223372036854775807 then (if ((((⟨#[40]⟩:ByteArray) ++ t204) ++ (⟨#[32]⟩:ByteArray)) ++ t206).size + 1 ≤ 9223372036854775807 then (some (((((⟨#[40]⟩:ByteArray) ++ t204) ++ (⟨#[32]⟩:ByteArray)) ++ t206) ++ (⟨#[41]⟩:ByteArray))) else (none)) else (none))) else (none)) else (none)) else (none))) else (none)) else (if 1 < (l0_2.length:Int) then ((spec_l20Text.f k ((rd_T25 l0_2 1).f0) ((rd_T25 l0_2 1).f1) ((rd_T25 l0_2 1).f2)).bind fun t208=>(if 1 + t208.size ≤ 9223372036854775807 then (if ((⟨#[123]⟩:ByteArray) ++ t208).size + 1 ≤ 9223372036854775807 then (if 0 < (l0_2.length:Int) then ((spec_l20Text.f k ((rd_T25 l0_2 0).f0) ((rd_T25 l0_2 0).f1) ((rd_T25 l0_2 0).f2)).bind fun t210=>(if (((⟨#[123]⟩:ByteArray) ++ t208) ++ (⟨#[125]⟩:ByteArray)).size + t210.size ≤ 9223372036854775807 then (some ((((⟨#[123]⟩:ByteArray) ++ t208) ++ (⟨#[125]⟩:ByteArray)) ++ t210)) else (none))) else (none)) else (none)) else (none))) else (none)))) = some r:=h
 clear h
 by_cases c2:a0_0 = 0
 ·rw [if_pos c2] at H
  have c2b0:(a0_0 == 0) = true:=beq_iff_eq.mpr c2
  have c2b1:(a0_0 != 0) = false:=bne_eq_false_iff_eq.mpr c2
  clear c2
  replace H:=Option.bind_eq_some_iff.mp H
  obtain ⟨t202,A30,H⟩:=H
  replace H:(if 1 + t202.size ≤ 9223372036854775807 then (some ((⟨#[109]⟩:ByteArray) ++ t202)) else (none)) = some r:=H
  have A3:=Aside0.mk A30
  clear A30
  by_cases c4:1 + t202.size ≤ 9223372036854775807
  ·rw [if_pos c4] at H
   have c4b0:=eq_true c4
   have c4b1:decide (1 + t202.size ≤ 9223372036854775807) = true:=decide_eq_true c4
   try have c4b2:(9223372036854775807 < 1 + t202.size) = False:=eq_false (Nat.not_lt.2 c4)
   obtain rfl:=Option.some.inj H
   go_enter Tryd.func48,Tryd.ntmps48
   go_wp2_with (first | ((with_reducible refine gate_dst (N:=1) rfl ?_);refine box_event ?hg (N:=1) ?hd (cs:=#[.int .i64 a0_0,.int .i64 a0_1,.slice A0_2 l0_2.length c0_2]) (t:=25) ?hr ?_;(case hd=>rfl);(case hg=>rfl);(case hr=>first | (go_simp;done) | (go_simp;rfl));intro gb201 hg w5 hbox hb;have n0_:=Aside0.mk (below_step (by repeat (first | (with_reducible first | exact HB.out | apply below_alloc | apply pw_below_drewN | apply below_drew1) | exact HB.out)) hb);have n1_:=Aside0.mk (hbox);have n2_:=Aside0.mk ((by rw [hg];exact (below_size (by repeat (first | (with_reducible first | exact HB.out | apply below_alloc | apply pw_below_drewN | apply below_drew1) | exact HB.out))):w.heap.size ≤ gb201));have n3_:=Aside0.mk ((by rw [hg];exact (below_size (by repeat (first | (with_reducible first | exact HB.out | apply below_alloc | apply pw_below_drewN | apply below_drew1) | exact HB.out))):w.heap.size ≤ gb201));clear HB;have HB:=n0_;have BK201:=n1_;have GW201:=n2_;have GE201:=n3_;clear n0_ n1_ n2_ n3_;clear hb hbox hg;have hcz6_0:w5.cell? ⟨gb201,0,none⟩ = some (.int .i64 a0_0):=(blk_cell BK201.out 0).trans rfl;have hcz6_1:w5.cell? ⟨gb201,1,none⟩ = some (.int .i64 a0_1):=(blk_cell BK201.out 1).trans rfl;have hcz6_2:w5.cell? ⟨gb201,2,none⟩ = some (.slice A0_2 l0_2.length c0_2):=(blk_cell BK201.out 2).trans rfl;have hfz6_0:=blk_frozen BK201.out 0;have hfz6_1:=blk_frozen BK201.out 1;have hfz6_2:=blk_frozen BK201.out 2) | ((with_reducible refine gate_callee (f:=62) rfl ?_);refine goesL_ (some 9) rfl rfl Tryd.func62 (by kernel_rfl) rfl #[.int .i64 a0_1] rfl (by (try simp only [List.map_toArray,List.map_cons,List.map_nil]);first | done | rfl | (simp only [List.length_drop,List.length_take];rfl)) ?_;(with_reducible refine (spec_l6Dec.calls k a0_1 t202 _ A3.out).mono ?_);rintro e w7 ⟨rfl,hb⟩;refine ⟨_,rfl,?_⟩;have n0_:=Aside0.mk (blk_below (g:=gb201) (o:=.cells #[.int .i64 a0_0,.int .i64 a0_1,.slice A0_2 l0_2.length c0_2] 25 (0,0)) (by (with_reducible repeat (first | refine blk_drewN ?_ _ | refine blk_drew ?_ | refine blk_alloc ?_ _));exact BK201.out) hb);have n1_:=Aside0.mk (below_step (by repeat (first | (with_reducible first | exact HB.out | apply below_alloc | apply pw_below_drewN | apply below_drew1 | refine below_set ?_ GE201.out) | exact HB.out)) hb);clear BK201;clear HB;have BK201:=n0_;have HB:=n1_;clear n0_ n1_;(try clear hb);(try clear hb2);(try clear hk);(try clear hi)))
   go_ret
   exact ⟨by first | rfl | (simp [errW_none,errW_some] <;> rfl) | (simp [*,errW_none,errW_some] <;> rfl),by repeat (first | (with_reducible first | exact HB.out | apply below_alloc | apply pw_below_drewN | apply below_drew1 | refine below_set ?_ GE201.out) | exact HB.out)⟩
  ·rw [if_neg c4] at H
   exact absurd H (by simp)
 ·rw [if_neg c2] at H
  have c2b0:(a0_0 == 0) = false:=beq_eq_false_iff_ne.mpr c2
  have c2b1:(a0_0 != 0) = true:=bne_iff_ne.mpr c2
  by_cases c8:a0_0 = 1
  ·rw [if_pos c8] at H
   have c8b0:(a0_0 == 1) = true:=beq_iff_eq.mpr c8
   have c8b1:(a0_0 != 1) = false:=bne_eq_false_iff_eq.mpr c8
   clear c8
   by_cases c9:0 < (l0_2.length:Int)
   ·rw [if_pos c9] at H
    have c9b0:decide (0 < (l0_2.length:Int)) = true:=decide_eq_true c9
    have c9b1:decide (0 < l0_2.length) = true:=decide_eq_true (by omega)
    clear c9
    replace H:=Option.bind_eq_some_iff.mp H
    obtain ⟨t204,A100,H⟩:=H
    replace H:(if 1 + t204.size ≤ 9223372036854775807 then (if ((⟨#[40]⟩:ByteArray) ++ t204).size + 1 ≤ 9223372036854775807 then (if 1 < (l0_2.length:Int) then ((spec_l20Text.f k ((rd_T25 l0_2 1).f0) ((rd_T25 l0_2 1).f1) ((rd_T25 l0_2 1).f2)).bind fun t206=>(if (((⟨#[40]⟩:ByteArray) ++ t204) ++ (⟨#[32]⟩:ByteArray)).size + t206.size ≤ 9223372036854775807 then (if ((((⟨#[40]⟩:ByteArray) ++ t204) ++ (⟨#[32]⟩:ByteArray)) ++ t206).size + 1 ≤ 9223372036854775807 then (some (((((⟨#[40]⟩:ByteArray) ++ t204) ++ (⟨#[32]⟩:ByteArray)) ++ t206) ++ (⟨#[41]⟩:ByteArray))) else (none)) else (none))) else (none)) else (none)) else (none)) = some r:=H
    have A10:=Aside0.mk A100
    clear A100
    by_cases c11:1 + t204.size ≤ 9223372036854775807
    ·rw [if_pos c11] at H
     have c11b0:=eq_true c11
     have c11b1:decide (1 + t204.size ≤ 9223372036854775807) = true:=decide_eq_true c11
     try have c11b2:(9223372036854775807 < 1 + t204.size) = False:=eq_false (Nat.not_lt.2 c11)
     by_cases c12:((⟨#[40]⟩:ByteArray) ++ t204).size + 1 ≤ 9223372036854775807
     ·rw [if_pos c12] at H
      have c12b0:=eq_true c12
      have c12b1:decide (((⟨#[40]⟩:ByteArray) ++ t204).size + 1 ≤ 9223372036854775807) = true:=decide_eq_true c12
      try have c12b2:(9223372036854775807 < ((⟨#[40]⟩:ByteArray) ++ t204).size + 1) = False:=eq_false (Nat.not_lt.2 c12)
      try (have c12b3:=c12b2;simp only [ByteArray.size_append,show (⟨#[40]⟩:ByteArray).size = 1 from rfl] at c12b3)
      by_cases c13:1 < (l0_2.length:Int)
      ·rw [if_pos c13] at H
       have c13b0:decide (1 < (l0_2.length:Int)) = true:=decide_eq_true c13
       have c13b1:decide (1 < l0_2.length) = true:=decide_eq_true (by omega)
       clear c13
       replace H:=Option.bind_eq_some_iff.mp H
       obtain ⟨t206,A140,H⟩:=H
       replace H:(if (((⟨#[40]⟩:ByteArray) ++ t204) ++ (⟨#[32]⟩:ByteArray)).size + t206.size ≤ 9223372036854775807 then (if ((((⟨#[40]⟩:ByteArray) ++ t204) ++ (⟨#[32]⟩:ByteArray)) ++ t206).size + 1 ≤ 9223372036854775807 then (some (((((⟨#[40]⟩:ByteArray) ++ t204) ++ (⟨#[32]⟩:ByteArray)) ++ t206) ++ (⟨#[41]⟩:ByteArray))) else (none)) else (none)) = some r:=H
       have A14:=Aside0.mk A140
       clear A140
       by_cases c15:(((⟨#[40]⟩:ByteArray) ++ t204) ++ (⟨#[32]⟩:ByteArray)).size + t206.size ≤ 9223372036854775807
       ·rw [if_pos c15] at H
        have c15b0:=eq_true c15
        have c15b1:decide ((((⟨#[40]⟩:ByteArray) ++ t204) ++ (⟨#[32]⟩:ByteArray)).size + t206.size ≤ 9223372036854775807) = true:=decide_eq_true c15
        try have c15b2:(9223372036854775807 < (((⟨#[40]⟩:ByteArray) ++ t204) ++ (⟨#[32]⟩:ByteArray)).size + t206.size) = False:=eq_false (Nat.not_lt.2 c15)
        try (have c15b3:=c15b2;simp only [ByteArray.size_append,show (⟨#[32]⟩:ByteArray).size = 1 from rfl,show (⟨#[40]⟩:ByteArray).size = 1 from rfl] at c15b3)
        by_cases c16:((((⟨#[40]⟩:ByteArray) ++ t204) ++ (⟨#[32]⟩:ByteArray)) ++ t206).size + 1 ≤ 9223372036854775807
        ·rw [if_pos c16] at H
         have c16b0:=eq_true c16
         have c16b1:decide (((((⟨#[40]⟩:ByteArray) ++ t204) ++ (⟨#[32]⟩:ByteArray)) ++ t206).size + 1 ≤ 9223372036854775807) = true:=decide_eq_true c16
         try have c16b2:(9223372036854775807 < ((((⟨#[40]⟩:ByteArray) ++ t204) ++ (⟨#[32]⟩:ByteArray)) ++ t206).size + 1) = False:=eq_false (Nat.not_lt.2 c16)
         try (have c16b3:=c16b2;simp only [ByteArray.size_append,show (⟨#[32]⟩:ByteArray).size = 1 from rfl,show (⟨#[40]⟩:ByteArray).size = 1 from rfl] at c16b3)
         obtain rfl:=Option.some.inj H
         go_enter Tryd.func48,Tryd.ntmps48
         try go_wp2_with (first | ((with_reducible refine gate_dst (N:=1) rfl ?_);refine box_event ?hg (N:=1) ?hd (cs:=#[.int .i64 a0_0,.int .i64 a0_1,.slice A0_2 l0_2.length c0_2]) (t:=25) ?hr ?_;(case hd=>rfl);(case hg=>rfl);(case hr=>first | (go_simp;done) | (go_simp;rfl));intro gb201 hg w17 hbox hb;have n0_:=Aside0.mk (below_step (by repeat (first | (with_reducible first | exact HB.out | apply below_alloc | apply pw_below_drewN | apply below_drew1) | exact HB.out)) hb);have n1_:=Aside0.mk (hbox);have n2_:=Aside0.mk ((by rw [hg];exact (below_size (by repeat (first | (with_reducible first | exact HB.out | apply below_alloc | apply pw_below_drewN | apply below_drew1) | exact HB.out))):w.heap.size ≤ gb201));have n3_:=Aside0.mk ((by rw [hg];exact (below_size (by repeat (first | (with_reducible first | exact HB.out | apply below_alloc | apply pw_below_drewN | apply below_drew1) | exact HB.out))):w.heap.size ≤ gb201));clear HB;have HB:=n0_;have BK201:=n1_;have GW201:=n2_;have GE201:=n3_;clear n0_ n1_ n2_ n3_;clear hb hbox hg;have hcz18_0:w17.cell? ⟨gb201,0,none⟩ = some (.int .i64 a0_0):=(blk_cell BK201.out 0).trans rfl;have hcz18_1:w17.cell? ⟨gb201,1,none⟩ = some (.int .i64 a0_1):=(blk_cell BK201.out 1).trans rfl;have hcz18_2:w17.cell? ⟨gb201,2,none⟩ = some (.slice A0_2 l0_2.length c0_2):=(blk_cell BK201.out 2).trans rfl;have hfz18_0:=blk_frozen BK201.out 0;have hfz18_1:=blk_frozen BK201.out 1;have hfz18_2:=blk_frozen BK201.out 2))
         have n0_:=Aside0.mk (blk_drew BK201.out)
         have n1_:=Aside0.mk (below_drew1 HB.out)
         clear BK201
         clear HB
         have BK201:=n0_
         have HB:=n1_
         clear n0_ n1_
         have p203:0 ≤ (0:Int):=(by omega)
         have q203:0 < (l0_2.length:Int):=of_decide_eq_true (by first | (with_reducible assumption) | assumption)
         obtain ⟨ad203,A203_2,c203_2,e203,hx203_0,hx203_1,hx203_2,hl203_2,hi203_2⟩:=at_T25 HR0_2.out 0 p203 q203
         have hw203_2:=hx203_2
         (try rw [show ((0:Int)).toNat = 0 from rfl] at hw203_2)
         (try rw [show 0 * 3 = 0 from rfl] at hw203_2)
         (try rw [Addr.add_zero'] at hw203_2)
         have hw203_1:=hx203_1
         (try rw [show ((0:Int)).toNat = 0 from rfl] at hw203_1)
         (try rw [show 0 * 3 = 0 from rfl] at hw203_1)
         (try rw [Addr.add_zero'] at hw203_1)
         have hw203_0:=hx203_0
         (try rw [show ((0:Int)).toNat = 0 from rfl] at hw203_0)
         (try rw [show 0 * 3 = 0 from rfl] at hw203_0)
         (try rw [Addr.add_zero'] at hw203_0)
         cases e203
         have qi203:(0 < l0_2.length) = True:=eq_true (by omega)
         (try rw [show ((0:Int)).toNat = 0 from rfl] at hx203_0)
         (try rw [show 0 * 3 = 0 from rfl] at hx203_0)
         (try rw [Addr.add_zero'] at hx203_0)
         (try rw [show ((0:Int)).toNat = 0 from rfl] at hx203_1)
         (try rw [show 0 * 3 = 0 from rfl] at hx203_1)
         (try rw [Addr.add_zero'] at hx203_1)
         (try rw [show ((0:Int)).toNat = 0 from rfl] at hx203_2)
         (try rw [show 0 * 3 = 0 from rfl] at hx203_2)
         (try rw [Addr.add_zero'] at hx203_2)
         replace hx203_0:=(HB.out.cell (World.block_lt_of_cell? w _ hx203_0)).trans hx203_0
         replace hx203_1:=(HB.out.cell (World.block_lt_of_cell? w _ hx203_1)).trans hx203_1
         replace hx203_2:=(HB.out.cell (World.block_lt_of_cell? w _ hx203_2)).trans hx203_2
         have HR203_2:=Aside0.mk hi203_2
         have HC203_2:=Aside0.mk hl203_2
         clear hi203_2 hl203_2
         replace p203:=eq_true p203
         replace q203:=eq_true q203
         have p205:0 ≤ (1:Int):=(by omega)
         have q205:1 < (l0_2.length:Int):=of_decide_eq_true (by first | (with_reducible assumption) | assumption)
         obtain ⟨ad205,A205_2,c205_2,e205,hx205_0,hx205_1,hx205_2,hl205_2,hi205_2⟩:=at_T25 HR0_2.out 1 p205 q205
         have hw205_2:=hx205_2
         (try rw [show ((1:Int)).toNat = 1 from rfl] at hw205_2)
         (try rw [show 1 * 3 = 3 from rfl] at hw205_2)
         (try simp only [Nat.reduceMul,Nat.reduceEqDiff,Go.Addr.add,↓reduceIte] at hw205_2)
         have hw205_1:=hx205_1
         (try rw [show ((1:Int)).toNat = 1 from rfl] at hw205_1)
         (try rw [show 1 * 3 = 3 from rfl] at hw205_1)
         (try simp only [Nat.reduceMul,Nat.reduceEqDiff,Go.Addr.add,↓reduceIte] at hw205_1)
         have hw205_0:=hx205_0
         (try rw [show ((1:Int)).toNat = 1 from rfl] at hw205_0)
         (try rw [show 1 * 3 = 3 from rfl] at hw205_0)
         (try simp only [Nat.reduceMul,Nat.reduceEqDiff,Go.Addr.add,↓reduceIte] at hw205_0)
         obtain rfl:ad203 = ad205:=(by injection e205)
         (try simp only [show (1:Int).toNat = 1 from rfl,Nat.reduceMul,Nat.reduceEqDiff,Go.Addr.add,↓reduceIte] at hx205_0)
         (try simp only [show (1:Int).toNat = 1 from rfl,Nat.reduceMul,Nat.reduceEqDiff,Go.Addr.add,↓reduceIte] at hx205_1)
         (try simp only [show (1:Int).toNat = 1 from rfl,Nat.reduceMul,Nat.reduceEqDiff,Go.Addr.add,↓reduceIte] at hx205_2)
         have qi205:(1 < l0_2.length) = True:=eq_true (by omega)
         (try rw [show ((1:Int)).toNat = 1 from rfl] at hx205_0)
         (try rw [show 1 * 3 = 3 from rfl] at hx205_0)
         (try rw [show ((1:Int)).toNat = 1 from rfl] at hx205_1)
         (try rw [show 1 * 3 = 3 from rfl] at hx205_1)
         (try rw [show ((1:Int)).toNat = 1 from rfl] at hx205_2)
         (try rw [show 1 * 3 = 3 from rfl] at hx205_2)
         replace hx205_0:=(HB.out.cell (World.block_lt_of_cell? w _ hx205_0)).trans hx205_0
         replace hx205_1:=(HB.out.cell (World.block_lt_of_cell? w _ hx205_1)).trans hx205_1
         replace hx205_2:=(HB.out.cell (World.block_lt_of_cell? w _ hx205_2)).trans hx205_2
         have HR205_2:=Aside0.mk hi205_2
         have HC205_2:=Aside0.mk hl205_2
         clear hi205_2 hl205_2
         replace p205:=eq_true p205
         replace q205:=eq_true q205
         refine start_ (n:=15) (S:=fun w'=>w'.cell? ⟨gb201,0,none⟩ = some (.int .i64 a0_0)∧w'.cell? ⟨gb201,1,none⟩ = some (.int .i64 a0_1)∧w'.cell? ⟨gb201,2,none⟩ = some (.slice (some ad203) l0_2.length c0_2)∧w'.cell? ad203 = some (.int .i64 ((rd_T25 l0_2 0).f0))∧w'.cell? ⟨ad203.block,ad203.off + 1,none⟩ = some (.int .i64 ((rd_T25 l0_2 0).f1))∧w'.cell? ⟨ad203.block,ad203.off + 2,none⟩ = some (.slice A203_2 ((rd_T25 l0_2 0).f2).length c203_2)∧w'.cell? ⟨ad203.block,ad203.off + 3,none⟩ = some (.int .i64 ((rd_T25 l0_2 1).f0))∧w'.cell? ⟨ad203.block,ad203.off + 3 + 1,none⟩ = some (.int .i64 ((rd_T25 l0_2 1).f1))∧w'.cell? ⟨ad203.block,ad203.off + 3 + 2,none⟩ = some (.slice A205_2 ((rd_T25 l0_2 1).f2).length c205_2)) (ds:=[]) #[false,false,false,false,false,false,false,false,false,false,false,false,false,false,false] (by kernel_rfl) rfl rfl ⟨(blk_cell BK201.out 0).trans rfl,(blk_cell BK201.out 1).trans rfl,(blk_cell BK201.out 2).trans rfl,((HB.out.cell (World.block_lt_of_cell? w _ hw203_0)).trans hw203_0),((HB.out.cell (World.block_lt_of_cell? w _ hw203_1)).trans hw203_1),((HB.out.cell (World.block_lt_of_cell? w _ hw203_2)).trans hw203_2),((HB.out.cell (World.block_lt_of_cell? w _ hw205_0)).trans hw205_0),((HB.out.cell (World.block_lt_of_cell? w _ hw205_1)).trans hw205_1),((HB.out.cell (World.block_lt_of_cell? w _ hw205_2)).trans hw205_2)⟩ (fun hHeld=>?_);refine with_tabW spec_l20Text.tab5 spec_l20Text.bits5 (fun HT_ HW_=>?_)
         generalize w17.drew = w19 at BK201 HB HR203_2 HR205_2 hx203_0 hx203_1 hx203_2 hx205_0 hx205_1 hx205_2 hHeld ⊢
         refine pure_ (i:=0) (N:=some 13) (v:=?_) (a':=?_) #[true,false,false,false,false,false,false,false,false,false,false,false,false,false,false] rfl rfl (any_of HT_.out (by kernel_rfl)) (fun _ _ _ h=>h) (Or.inl ⟨by rfl,?_⟩) ?_ ?_
         rotate_left;·intro w';go_simp;with_reducible rfl
         rotate_left;·simp only [Act.put,List.setIfInBounds_toArray,List.set_cons_zero,List.set_cons_succ,i64_w,i32_w];rfl
         refine pure_ (i:=7) (N:=some 20) (v:=?_) (a':=?_) #[true,false,false,false,false,false,false,true,false,false,false,false,false,false,false] rfl rfl (any_of HT_.out (by kernel_rfl)) (fun _ _ _ h=>h) (Or.inl ⟨by rfl,?_⟩) ?_ ?_
         rotate_left;·intro w';go_simp;with_reducible rfl
         rotate_left;·simp only [Act.put,List.setIfInBounds_toArray,List.set_cons_zero,List.set_cons_succ,i64_w,i32_w];rfl
         refine take_ (i:=1) (N:=some 14) (v:=?_) (a':=?_) #[true,true,false,false,false,false,false,true,false,false,false,false,false,false,false] rfl rfl (take_ofW HT_.out HW_.out (by kernel_rfl)) (fun _ _ _ h=>h) (Or.inl ⟨by rfl,?_⟩) hHeld ?_ ?_
         rotate_left;·rintro w' ⟨s0,s1,s2,s3,s4,s5,s6,s7,s8⟩;go_simp;with_reducible rfl
         rotate_left;·simp only [Act.put,List.setIfInBounds_toArray,List.set_cons_zero,List.set_cons_succ,i64_w,i32_w];rfl
         refine pure_ (i:=2) (N:=some 15) (v:=?_) (a':=?_) #[true,true,true,false,false,false,false,true,false,false,false,false,false,false,false] rfl rfl (any_of HT_.out (by kernel_rfl)) (fun _ _ _ h=>h) (Or.inl ⟨by rfl,?_⟩) ?_ ?_
         rotate_left;·intro w';go_simp;with_reducible rfl
         rotate_left;·simp only [Act.put,List.setIfInBounds_toArray,List.set_cons_zero,List.set_cons_succ,i64_w,i32_w];rfl
         refine take_ (i:=3) (N:=some 16) (v:=?_) (a':=?_) #[true,true,true,true,false,false,false,true,false,false,false,false,false,false,false] rfl rfl (take_ofW HT_.out HW_.out (by kernel_rfl)) (fun _ _ _ h=>h) (Or.inl ⟨by rfl,?_⟩) hHeld ?_ ?_
         rotate_left;·rintro w' ⟨s0,s1,s2,s3,s4,s5,s6,s7,s8⟩;go_simp;with_reducible rfl
         rotate_left;·simp only [Act.put,List.setIfInBounds_toArray,List.set_cons_zero,List.set_cons_succ,i64_w,i32_w];rfl
         refine take_ (i:=8) (N:=some 21) (v:=?_) (a':=?_) #[true,true,true,true,false,false,false,true,true,false,false,false,false,false,false] rfl rfl (take_ofW HT_.out HW_.out (by kernel_rfl)) (fun _ _ _ h=>h) (Or.inl ⟨by rfl,?_⟩) hHeld ?_ ?_
         rotate_left;·rintro w' ⟨s0,s1,s2,s3,s4,s5,s6,s7,s8⟩;go_simp;with_reducible rfl
         rotate_left;·simp only [Act.put,List.setIfInBounds_toArray,List.set_cons_zero,List.set_cons_succ,i64_w,i32_w];rfl
         refine pure_ (i:=9) (N:=some 22) (v:=?_) (a':=?_) #[true,true,true,true,false,false,false,true,true,true,false,false,false,false,false] rfl rfl (any_of HT_.out (by kernel_rfl)) (fun _ _ _ h=>h) (Or.inl ⟨by rfl,?_⟩) ?_ ?_
         rotate_left;·intro w';go_simp;with_reducible rfl
         rotate_left;·simp only [Act.put,List.setIfInBounds_toArray,List.set_cons_zero,List.set_cons_succ,i64_w,i32_w];rfl
         refine take_ (i:=10) (N:=some 23) (v:=?_) (a':=?_) #[true,true,true,true,false,false,false,true,true,true,true,false,false,false,false] rfl rfl (take_ofW HT_.out HW_.out (by kernel_rfl)) (fun _ _ _ h=>h) (Or.inl ⟨by rfl,?_⟩) hHeld ?_ ?_
         rotate_left;·rintro w' ⟨s0,s1,s2,s3,s4,s5,s6,s7,s8⟩;go_simp;with_reducible rfl
         rotate_left;·simp only [Act.put,List.setIfInBounds_toArray,List.set_cons_zero,List.set_cons_succ,i64_w,i32_w];rfl
         refine one_ (i:=4) (N:=some 17) #[true,true,true,true,true,false,false,true,true,true,true,false,false,false,false] rfl rfl (one_of HT_.out (by kernel_rfl)) (by decide) (fun K hK=>?_)
         refine goes_ Tryd.func48 (by kernel_rfl) rfl #[.agg #[.int .i64 ((rd_T25 l0_2 0).f0),.int .i64 ((rd_T25 l0_2 0).f1),.slice A203_2 ((rd_T25 l0_2 0).f2).length c203_2]] (by rfl) rfl rfl (by (try simp only [List.map_toArray,List.map_cons,List.map_nil]);first | done | rfl | (simp only [List.length_drop,List.length_take];rfl)) ?_
         with_reducible refine (ih k (by omega) ((rd_T25 l0_2 0).f0) ((rd_T25 l0_2 0).f1) _ _ ((rd_T25 l0_2 0).f2) t204 _ ?side1 ?side2 A10.out).mono ?_
         (case side1=>repeat (first | exact (Kd.C_below HR203_2.out HB.out) | (with_reducible refine Kd.C_alloc ?_ _) | (with_reducible refine Kd.C_drewN ?_ _) | (with_reducible refine Kd.C_drew ?_)))
         (case side2=>exact HC203_2.out)
         rintro e w20 ⟨rfl,hb⟩
         refine ⟨_,rfl,?_⟩
         have n0_:=Aside0.mk (blk_below (g:=gb201) (o:=.cells #[.int .i64 a0_0,.int .i64 a0_1,.slice (some ad203) l0_2.length c0_2] 25 (0,0)) (by (with_reducible repeat (first | refine blk_drewN ?_ _ | refine blk_drew ?_ | refine blk_alloc ?_ _));exact BK201.out) hb)
         have n1_:=Aside0.mk (below_step (by repeat (first | (with_reducible first | exact HB.out | apply below_alloc | apply pw_below_drewN | apply below_drew1 | refine below_set ?_ GE201.out) | exact HB.out)) hb)
         clear BK201
         clear HB
         have BK201:=n0_
         have HB:=n1_
         clear n0_ n1_
         (try clear hb)
         (try clear hb2)
         (try clear hk)
         (try clear hi)
         refine hK.out _ _ ⟨(blk_cell BK201.out 0).trans rfl,(blk_cell BK201.out 1).trans rfl,(blk_cell BK201.out 2).trans rfl,((HB.out.cell (World.block_lt_of_cell? w _ hw203_0)).trans hw203_0),((HB.out.cell (World.block_lt_of_cell? w _ hw203_1)).trans hw203_1),((HB.out.cell (World.block_lt_of_cell? w _ hw203_2)).trans hw203_2),((HB.out.cell (World.block_lt_of_cell? w _ hw205_0)).trans hw205_0),((HB.out.cell (World.block_lt_of_cell? w _ hw205_1)).trans hw205_1),((HB.out.cell (World.block_lt_of_cell? w _ hw205_2)).trans hw205_2)⟩ (fun hHeld=>?_)
         clear hK K
         refine norm_ (a':=?_) ?_ ?_
         rotate_left
         ·show Act.put _ (some 17) _ = _
          simp only [Act.put,List.setIfInBounds_toArray,List.set_cons_zero,List.set_cons_succ,i64_w,i32_w]
          rfl
         refine pure_ (i:=5) (N:=some 18) (v:=?_) (a':=?_) #[true,true,true,true,true,true,false,true,true,true,true,false,false,false,false] rfl rfl (any_of HT_.out (by kernel_rfl)) (fun _ _ _ h=>h) (Or.inl ⟨by rfl,?_⟩) ?_ ?_
         rotate_left;·intro w';go_simp;with_reducible rfl
         rotate_left;·simp only [Act.put,List.setIfInBounds_toArray,List.set_cons_zero,List.set_cons_succ,i64_w,i32_w];rfl
         refine pure_ (i:=6) (N:=some 19) (v:=?_) (a':=?_) #[true,true,true,true,true,true,true,true,true,true,true,false,false,false,false] rfl rfl (any_of HT_.out (by kernel_rfl)) (fun _ _ _ h=>h) (Or.inl ⟨by rfl,?_⟩) ?_ ?_
         rotate_left;·intro w';go_simp;with_reducible rfl
         rotate_left;·simp only [Act.put,List.setIfInBounds_toArray,List.set_cons_zero,List.set_cons_succ,i64_w,i32_w];rfl
         refine one_ (i:=11) (N:=some 24) #[true,true,true,true,true,true,true,true,true,true,true,true,false,false,false] rfl rfl (one_of HT_.out (by kernel_rfl)) (by decide) (fun K hK=>?_)
         refine goes_ Tryd.func48 (by kernel_rfl) rfl #[.agg #[.int .i64 ((rd_T25 l0_2 1).f0),.int .i64 ((rd_T25 l0_2 1).f1),.slice A205_2 ((rd_T25 l0_2 1).f2).length c205_2]] (by rfl) rfl rfl (by (try simp only [List.map_toArray,List.map_cons,List.map_nil]);first | done | rfl | (simp only [List.length_drop,List.length_take];rfl)) ?_
         with_reducible refine (ih k (by omega) ((rd_T25 l0_2 1).f0) ((rd_T25 l0_2 1).f1) _ _ ((rd_T25 l0_2 1).f2) t206 _ ?side1 ?side2 A14.out).mono ?_
         (case side1=>repeat (first | exact (Kd.C_below HR205_2.out HB.out) | (with_reducible refine Kd.C_alloc ?_ _) | (with_reducible refine Kd.C_drewN ?_ _) | (with_reducible refine Kd.C_drew ?_)))
         (case side2=>exact HC205_2.out)
         rintro e w21 ⟨rfl,hb⟩
         refine ⟨_,rfl,?_⟩
         have n0_:=Aside0.mk (blk_below (g:=gb201) (o:=.cells #[.int .i64 a0_0,.int .i64 a0_1,.slice (some ad203) l0_2.length c0_2] 25 (0,0)) (by (with_reducible repeat (first | refine blk_drewN ?_ _ | refine blk_drew ?_ | refine blk_alloc ?_ _));exact BK201.out) hb)
         have n1_:=Aside0.mk (below_step (by repeat (first | (with_reducible first | exact HB.out | apply below_alloc | apply pw_below_drewN | apply below_drew1 | refine below_set ?_ GE201.out) | exact HB.out)) hb)
         clear BK201
         clear HB
         have BK201:=n0_
         have HB:=n1_
         clear n0_ n1_
         (try clear hb)
         (try clear hb2)
         (try clear hk)
         (try clear hi)
         refine hK.out _ _ ⟨(blk_cell BK201.out 0).trans rfl,(blk_cell BK201.out 1).trans rfl,(blk_cell BK201.out 2).trans rfl,((HB.out.cell (World.block_lt_of_cell? w _ hw203_0)).trans hw203_0),((HB.out.cell (World.block_lt_of_cell? w _ hw203_1)).trans hw203_1),((HB.out.cell (World.block_lt_of_cell? w _ hw203_2)).trans hw203_2),((HB.out.cell (World.block_lt_of_cell? w _ hw205_0)).trans hw205_0),((HB.out.cell (World.block_lt_of_cell? w _ hw205_1)).trans hw205_1),((HB.out.cell (World.block_lt_of_cell? w _ hw205_2)).trans hw205_2)⟩ (fun hHeld=>?_)
         clear hK K
         refine norm_ (a':=?_) ?_ ?_
         rotate_left
         ·show Act.put _ (some 24) _ = _
          simp only [Act.put,List.setIfInBounds_toArray,List.set_cons_zero,List.set_cons_succ,i64_w,i32_w]
          rfl
         refine pure_ (i:=12) (N:=some 25) (v:=?_) (a':=?_) #[true,true,true,true,true,true,true,true,true,true,true,true,true,false,false] rfl rfl (any_of HT_.out (by kernel_rfl)) (fun _ _ _ h=>h) (Or.inl ⟨by rfl,?_⟩) ?_ ?_
         rotate_left;·intro w';go_simp;with_reducible rfl
         rotate_left;·simp only [Act.put,List.setIfInBounds_toArray,List.set_cons_zero,List.set_cons_succ,i64_w,i32_w];rfl
         refine pure_ (i:=13) (N:=some 26) (v:=?_) (a':=?_) #[true,true,true,true,true,true,true,true,true,true,true,true,true,true,false] rfl rfl (any_of HT_.out (by kernel_rfl)) (fun _ _ _ h=>h) (Or.inl ⟨by rfl,?_⟩) ?_ ?_
         rotate_left;·intro w';go_simp;with_reducible rfl
         rotate_left;·simp only [Act.put,List.setIfInBounds_toArray,List.set_cons_zero,List.set_cons_succ,i64_w,i32_w];rfl
         refine pure_ (i:=14) (N:=some 2) (v:=?_) (a':=?_) #[true,true,true,true,true,true,true,true,true,true,true,true,true,true,true] rfl rfl (any_of HT_.out (by kernel_rfl)) (fun _ _ _ h=>h) (Or.inl ⟨by rfl,?_⟩) ?_ ?_
         rotate_left;·intro w';go_simp;with_reducible rfl
         rotate_left;·simp only [Act.put,List.setIfInBounds_toArray,List.set_cons_zero,List.set_cons_succ,i64_w,i32_w];rfl
         refine done_ (done_of HT_.out (by kernel_rfl)) ?_
         try go_wp2
         go_ret
         exact ⟨by first | rfl | (simp [errW_none,errW_some] <;> rfl) | (simp [*,errW_none,errW_some] <;> rfl),by repeat (first | (with_reducible first | exact HB.out | apply below_alloc | apply pw_below_drewN | apply below_drew1 | refine below_set ?_ GE201.out) | exact HB.out)⟩
        ·rw [if_neg c16] at H
         exact absurd H (by simp)
       ·rw [if_neg c15] at H
        exact absurd H (by simp)
      ·rw [if_neg c13] at H
       exact absurd H (by simp)
     ·rw [if_neg c12] at H
      exact absurd H (by simp)
    ·rw [if_neg c11] at H
     exact absurd H (by simp)
   ·rw [if_neg c9] at H
    exact absurd H (by simp)
  ·rw [if_neg c8] at H
   have c8b0:(a0_0 == 1) = false:=beq_eq_false_iff_ne.mpr c8
   have c8b1:(a0_0 != 1) = true:=bne_iff_ne.mpr c8
   by_cases c22:1 < (l0_2.length:Int)
   ·rw [if_pos c22] at H
    have c22b0:decide (1 < (l0_2.length:Int)) = true:=decide_eq_true c22
    have c22b1:decide (1 < l0_2.length) = true:=decide_eq_true (by omega)
    clear c22
    replace H:=Option.bind_eq_some_iff.mp H
    obtain ⟨t208,A230,H⟩:=H
    replace H:(if 1 + t208.size ≤ 9223372036854775807 then (if ((⟨#[123]⟩:ByteArray) ++ t208).size + 1 ≤ 9223372036854775807 then (if 0 < (l0_2.length:Int) then ((spec_l20Text.f k ((rd_T25 l0_2 0).f0) ((rd_T25 l0_2 0).f1) ((rd_T25 l0_2 0).f2)).bind fun t210=>(if (((⟨#[123]⟩:ByteArray) ++ t208) ++ (⟨#[125]⟩:ByteArray)).size + t210.size ≤ 9223372036854775807 then (some ((((⟨#[123]⟩:ByteArray) ++ t208) ++ (⟨#[125]⟩:ByteArray)) ++ t210)) else (none))) else (none)) else (none)) else (none)) = some r:=H
    have A23:=Aside0.mk A230
    clear A230
    by_cases c24:1 + t208.size ≤ 9223372036854775807
    ·rw [if_pos c24] at H
     have c24b0:=eq_true c24
     have c24b1:decide (1 + t208.size ≤ 9223372036854775807) = true:=decide_eq_true c24
     try have c24b2:(9223372036854775807 < 1 + t208.size) = False:=eq_false (Nat.not_lt.2 c24)
     by_cases c25:((⟨#[123]⟩:ByteArray) ++ t208).size + 1 ≤ 9223372036854775807
     ·rw [if_pos c25] at H
      have c25b0:=eq_true c25
      have c25b1:decide (((⟨#[123]⟩:ByteArray) ++ t208).size + 1 ≤ 9223372036854775807) = true:=decide_eq_true c25
      try have c25b2:(9223372036854775807 < ((⟨#[123]⟩:ByteArray) ++ t208).size + 1) = False:=eq_false (Nat.not_lt.2 c25)
      try (have c25b3:=c25b2;simp only [ByteArray.size_append,show (⟨#[123]⟩:ByteArray).size = 1 from rfl] at c25b3)
      by_cases c26:0 < (l0_2.length:Int)
      ·rw [if_pos c26] at H
       have c26b0:decide (0 < (l0_2.length:Int)) = true:=decide_eq_true c26
       have c26b1:decide (0 < l0_2.length) = true:=decide_eq_true (by omega)
       clear c26
       replace H:=Option.bind_eq_some_iff.mp H
       obtain ⟨t210,A270,H⟩:=H
       replace H:(if (((⟨#[123]⟩:ByteArray) ++ t208) ++ (⟨#[125]⟩:ByteArray)).size + t210.size ≤ 9223372036854775807 then (some ((((⟨#[123]⟩:ByteArray) ++ t208) ++ (⟨#[125]⟩:ByteArray)) ++ t210)) else (none)) = some r:=H
       have A27:=Aside0.mk A270
       clear A270
       by_cases c28:(((⟨#[123]⟩:ByteArray) ++ t208) ++ (⟨#[125]⟩:ByteArray)).size + t210.size ≤ 9223372036854775807
       ·rw [if_pos c28] at H
        have c28b0:=eq_true c28
        have c28b1:decide ((((⟨#[123]⟩:ByteArray) ++ t208) ++ (⟨#[125]⟩:ByteArray)).size + t210.size ≤ 9223372036854775807) = true:=decide_eq_true c28
        try have c28b2:(9223372036854775807 < (((⟨#[123]⟩:ByteArray) ++ t208) ++ (⟨#[125]⟩:ByteArray)).size + t210.size) = False:=eq_false (Nat.not_lt.2 c28)
        try (have c28b3:=c28b2;simp only [ByteArray.size_append,show (⟨#[123]⟩:ByteArray).size = 1 from rfl,show (⟨#[125]⟩:ByteArray).size = 1 from rfl] at c28b3)
        obtain rfl:=Option.some.inj H
        go_enter Tryd.func48,Tryd.ntmps48
        try go_wp2_with (first | ((with_reducible refine gate_dst (N:=1) rfl ?_);refine box_event ?hg (N:=1) ?hd (cs:=#[.int .i64 a0_0,.int .i64 a0_1,.slice A0_2 l0_2.length c0_2]) (t:=25) ?hr ?_;(case hd=>rfl);(case hg=>rfl);(case hr=>first | (go_simp;done) | (go_simp;rfl));intro gb201 hg w29 hbox hb;have n0_:=Aside0.mk (below_step (by repeat (first | (with_reducible first | exact HB.out | apply below_alloc | apply pw_below_drewN | apply below_drew1) | exact HB.out)) hb);have n1_:=Aside0.mk (hbox);have n2_:=Aside0.mk ((by rw [hg];exact (below_size (by repeat (first | (with_reducible first | exact HB.out | apply below_alloc | apply pw_below_drewN | apply below_drew1) | exact HB.out))):w.heap.size ≤ gb201));have n3_:=Aside0.mk ((by rw [hg];exact (below_size (by repeat (first | (with_reducible first | exact HB.out | apply below_alloc | apply pw_below_drewN | apply below_drew1) | exact HB.out))):w.heap.size ≤ gb201));clear HB;have HB:=n0_;have BK201:=n1_;have GW201:=n2_;have GE201:=n3_;clear n0_ n1_ n2_ n3_;clear hb hbox hg;have hcz30_0:w29.cell? ⟨gb201,0,none⟩ = some (.int .i64 a0_0):=(blk_cell BK201.out 0).trans rfl;have hcz30_1:w29.cell? ⟨gb201,1,none⟩ = some (.int .i64 a0_1):=(blk_cell BK201.out 1).trans rfl;have hcz30_2:w29.cell? ⟨gb201,2,none⟩ = some (.slice A0_2 l0_2.length c0_2):=(blk_cell BK201.out 2).trans rfl;have hfz30_0:=blk_frozen BK201.out 0;have hfz30_1:=blk_frozen BK201.out 1;have hfz30_2:=blk_frozen BK201.out 2))
        have n0_:=Aside0.mk (blk_drew BK201.out)
        have n1_:=Aside0.mk (below_drew1 HB.out)
        clear BK201
        clear HB
        have BK201:=n0_
        have HB:=n1_
        clear n0_ n1_
        have p207:0 ≤ (1:Int):=(by omega)
        have q207:1 < (l0_2.length:Int):=of_decide_eq_true (by first | (with_reducible assumption) | assumption)
        obtain ⟨ad207,A207_2,c207_2,e207,hx207_0,hx207_1,hx207_2,hl207_2,hi207_2⟩:=at_T25 HR0_2.out 1 p207 q207
        have hw207_2:=hx207_2
        (try rw [show ((1:Int)).toNat = 1 from rfl] at hw207_2)
        (try rw [show 1 * 3 = 3 from rfl] at hw207_2)
        (try simp only [Nat.reduceMul,Nat.reduceEqDiff,Go.Addr.add,↓reduceIte] at hw207_2)
        have hw207_1:=hx207_1
        (try rw [show ((1:Int)).toNat = 1 from rfl] at hw207_1)
        (try rw [show 1 * 3 = 3 from rfl] at hw207_1)
        (try simp only [Nat.reduceMul,Nat.reduceEqDiff,Go.Addr.add,↓reduceIte] at hw207_1)
        have hw207_0:=hx207_0
        (try rw [show ((1:Int)).toNat = 1 from rfl] at hw207_0)
        (try rw [show 1 * 3 = 3 from rfl] at hw207_0)
        (try simp only [Nat.reduceMul,Nat.reduceEqDiff,Go.Addr.add,↓reduceIte] at hw207_0)
        cases e207
        (try simp only [show (1:Int).toNat = 1 from rfl,Nat.reduceMul,Nat.reduceEqDiff,Go.Addr.add,↓reduceIte] at hx207_0)
        (try simp only [show (1:Int).toNat = 1 from rfl,Nat.reduceMul,Nat.reduceEqDiff,Go.Addr.add,↓reduceIte] at hx207_1)
        (try simp only [show (1:Int).toNat = 1 from rfl,Nat.reduceMul,Nat.reduceEqDiff,Go.Addr.add,↓reduceIte] at hx207_2)
        have qi207:(1 < l0_2.length) = True:=eq_true (by omega)
        (try rw [show ((1:Int)).toNat = 1 from rfl] at hx207_0)
        (try rw [show 1 * 3 = 3 from rfl] at hx207_0)
        (try rw [show ((1:Int)).toNat = 1 from rfl] at hx207_1)
        (try rw [show 1 * 3 = 3 from rfl] at hx207_1)
        (try rw [show ((1:Int)).toNat = 1 from rfl] at hx207_2)
        (try rw [show 1 * 3 = 3 from rfl] at hx207_2)
        replace hx207_0:=(HB.out.cell (World.block_lt_of_cell? w _ hx207_0)).trans hx207_0
        replace hx207_1:=(HB.out.cell (World.block_lt_of_cell? w _ hx207_1)).trans hx207_1
        replace hx207_2:=(HB.out.cell (World.block_lt_of_cell? w _ hx207_2)).trans hx207_2
        have HR207_2:=Aside0.mk hi207_2
        have HC207_2:=Aside0.mk hl207_2
        clear hi207_2 hl207_2
        replace p207:=eq_true p207
        replace q207:=eq_true q207
        have p209:0 ≤ (0:Int):=(by omega)
        have q209:0 < (l0_2.length:Int):=of_decide_eq_true (by first | (with_reducible assumption) | assumption)
        obtain ⟨ad209,A209_2,c209_2,e209,hx209_0,hx209_1,hx209_2,hl209_2,hi209_2⟩:=at_T25 HR0_2.out 0 p209 q209
        have hw209_2:=hx209_2
        (try rw [show ((0:Int)).toNat = 0 from rfl] at hw209_2)
        (try rw [show 0 * 3 = 0 from rfl] at hw209_2)
        (try rw [Addr.add_zero'] at hw209_2)
        have hw209_1:=hx209_1
        (try rw [show ((0:Int)).toNat = 0 from rfl] at hw209_1)
        (try rw [show 0 * 3 = 0 from rfl] at hw209_1)
        (try rw [Addr.add_zero'] at hw209_1)
        have hw209_0:=hx209_0
        (try rw [show ((0:Int)).toNat = 0 from rfl] at hw209_0)
        (try rw [show 0 * 3 = 0 from rfl] at hw209_0)
        (try rw [Addr.add_zero'] at hw209_0)
        obtain rfl:ad207 = ad209:=(by injection e209)
        have qi209:(0 < l0_2.length) = True:=eq_true (by omega)
        (try rw [show ((0:Int)).toNat = 0 from rfl] at hx209_0)
        (try rw [show 0 * 3 = 0 from rfl] at hx209_0)
        (try rw [Addr.add_zero'] at hx209_0)
        (try rw [show ((0:Int)).toNat = 0 from rfl] at hx209_1)
        (try rw [show 0 * 3 = 0 from rfl] at hx209_1)
        (try rw [Addr.add_zero'] at hx209_1)
        (try rw [show ((0:Int)).toNat = 0 from rfl] at hx209_2)
        (try rw [show 0 * 3 = 0 from rfl] at hx209_2)
        (try rw [Addr.add_zero'] at hx209_2)
        replace hx209_0:=(HB.out.cell (World.block_lt_of_cell? w _ hx209_0)).trans hx209_0
        replace hx209_1:=(HB.out.cell (World.block_lt_of_cell? w _ hx209_1)).trans hx209_1
        replace hx209_2:=(HB.out.cell (World.block_lt_of_cell? w _ hx209_2)).trans hx209_2
        have HR209_2:=Aside0.mk hi209_2
        have HC209_2:=Aside0.mk hl209_2
        clear hi209_2 hl209_2
        replace p209:=eq_true p209
        replace q209:=eq_true q209
        refine start_ (n:=14) (S:=fun w'=>w'.cell? ⟨gb201,0,none⟩ = some (.int .i64 a0_0)∧w'.cell? ⟨gb201,1,none⟩ = some (.int .i64 a0_1)∧w'.cell? ⟨gb201,2,none⟩ = some (.slice (some ad207) l0_2.length c0_2)∧w'.cell? ⟨ad207.block,ad207.off + 3,none⟩ = some (.int .i64 ((rd_T25 l0_2 1).f0))∧w'.cell? ⟨ad207.block,ad207.off + 3 + 1,none⟩ = some (.int .i64 ((rd_T25 l0_2 1).f1))∧w'.cell? ⟨ad207.block,ad207.off + 3 + 2,none⟩ = some (.slice A207_2 ((rd_T25 l0_2 1).f2).length c207_2)∧w'.cell? ad207 = some (.int .i64 ((rd_T25 l0_2 0).f0))∧w'.cell? ⟨ad207.block,ad207.off + 1,none⟩ = some (.int .i64 ((rd_T25 l0_2 0).f1))∧w'.cell? ⟨ad207.block,ad207.off + 2,none⟩ = some (.slice A209_2 ((rd_T25 l0_2 0).f2).length c209_2)) (ds:=[]) #[false,false,false,false,false,false,false,false,false,false,false,false,false,false] (by kernel_rfl) rfl rfl ⟨(blk_cell BK201.out 0).trans rfl,(blk_cell BK201.out 1).trans rfl,(blk_cell BK201.out 2).trans rfl,((HB.out.cell (World.block_lt_of_cell? w _ hw207_0)).trans hw207_0),((HB.out.cell (World.block_lt_of_cell? w _ hw207_1)).trans hw207_1),((HB.out.cell (World.block_lt_of_cell? w _ hw207_2)).trans hw207_2),((HB.out.cell (World.block_lt_of_cell? w _ hw209_0)).trans hw209_0),((HB.out.cell (World.block_lt_of_cell? w _ hw209_1)).trans hw209_1),((HB.out.cell (World.block_lt_of_cell? w _ hw209_2)).trans hw209_2)⟩ (fun hHeld=>?_);refine with_tabW spec_l20Text.tab6 spec_l20Text.bits6 (fun HT_ HW_=>?_)
        generalize w29.drew = w31 at BK201 HB HR207_2 HR209_2 hx207_0 hx207_1 hx207_2 hx209_0 hx209_1 hx209_2 hHeld ⊢
        refine pure_ (i:=0) (N:=some 27) (v:=?_) (a':=?_) #[true,false,false,false,false,false,false,false,false,false,false,false,false,false] rfl rfl (any_of HT_.out (by kernel_rfl)) (fun _ _ _ h=>h) (Or.inl ⟨by rfl,?_⟩) ?_ ?_
        rotate_left;·intro w';go_simp;with_reducible rfl
        rotate_left;·simp only [Act.put,List.setIfInBounds_toArray,List.set_cons_zero,List.set_cons_succ,i64_w,i32_w];rfl
        refine pure_ (i:=7) (N:=some 34) (v:=?_) (a':=?_) #[true,false,false,false,false,false,false,true,false,false,false,false,false,false] rfl rfl (any_of HT_.out (by kernel_rfl)) (fun _ _ _ h=>h) (Or.inl ⟨by rfl,?_⟩) ?_ ?_
        rotate_left;·intro w';go_simp;with_reducible rfl
        rotate_left;·simp only [Act.put,List.setIfInBounds_toArray,List.set_cons_zero,List.set_cons_succ,i64_w,i32_w];rfl
        refine take_ (i:=1) (N:=some 28) (v:=?_) (a':=?_) #[true,true,false,false,false,false,false,true,false,false,false,false,false,false] rfl rfl (take_ofW HT_.out HW_.out (by kernel_rfl)) (fun _ _ _ h=>h) (Or.inl ⟨by rfl,?_⟩) hHeld ?_ ?_
        rotate_left;·rintro w' ⟨s0,s1,s2,s3,s4,s5,s6,s7,s8⟩;go_simp;with_reducible rfl
        rotate_left;·simp only [Act.put,List.setIfInBounds_toArray,List.set_cons_zero,List.set_cons_succ,i64_w,i32_w];rfl
        refine pure_ (i:=2) (N:=some 29) (v:=?_) (a':=?_) #[true,true,true,false,false,false,false,true,false,false,false,false,false,false] rfl rfl (any_of HT_.out (by kernel_rfl)) (fun _ _ _ h=>h) (Or.inl ⟨by rfl,?_⟩) ?_ ?_
        rotate_left;·intro w';go_simp;with_reducible rfl
        rotate_left;·simp only [Act.put,List.setIfInBounds_toArray,List.set_cons_zero,List.set_cons_succ,i64_w,i32_w];rfl
        refine take_ (i:=3) (N:=some 30) (v:=?_) (a':=?_) #[true,true,true,true,false,false,false,true,false,false,false,false,false,false] rfl rfl (take_ofW HT_.out HW_.out (by kernel_rfl)) (fun _ _ _ h=>h) (Or.inl ⟨by rfl,?_⟩) hHeld ?_ ?_
        rotate_left;·rintro w' ⟨s0,s1,s2,s3,s4,s5,s6,s7,s8⟩;go_simp;with_reducible rfl
        rotate_left;·simp only [Act.put,List.setIfInBounds_toArray,List.set_cons_zero,List.set_cons_succ,i64_w,i32_w];rfl
        refine take_ (i:=8) (N:=some 35) (v:=?_) (a':=?_) #[true,true,true,true,false,false,false,true,true,false,false,false,false,false] rfl rfl (take_ofW HT_.out HW_.out (by kernel_rfl)) (fun _ _ _ h=>h) (Or.inl ⟨by rfl,?_⟩) hHeld ?_ ?_
        rotate_left;·rintro w' ⟨s0,s1,s2,s3,s4,s5,s6,s7,s8⟩;go_simp;with_reducible rfl
        rotate_left;·simp only [Act.put,List.setIfInBounds_toArray,List.set_cons_zero,List.set_cons_succ,i64_w,i32_w];rfl
        refine pure_ (i:=9) (N:=some 36) (v:=?_) (a':=?_) #[true,true,true,true,false,false,false,true,true,true,false,false,false,false] rfl rfl (any_of HT_.out (by kernel_rfl)) (fun _ _ _ h=>h) (Or.inl ⟨by rfl,?_⟩) ?_ ?_
        rotate_left;·intro w';go_simp;with_reducible rfl
        rotate_left;·simp only [Act.put,List.setIfInBounds_toArray,List.set_cons_zero,List.set_cons_succ,i64_w,i32_w];rfl
        refine take_ (i:=10) (N:=some 37) (v:=?_) (a':=?_) #[true,true,true,true,false,false,false,true,true,true,true,false,false,false] rfl rfl (take_ofW HT_.out HW_.out (by kernel_rfl)) (fun _ _ _ h=>h) (Or.inl ⟨by rfl,?_⟩) hHeld ?_ ?_
        rotate_left;·rintro w' ⟨s0,s1,s2,s3,s4,s5,s6,s7,s8⟩;go_simp;with_reducible rfl
        rotate_left;·simp only [Act.put,List.setIfInBounds_toArray,List.set_cons_zero,List.set_cons_succ,i64_w,i32_w];rfl
        refine one_ (i:=4) (N:=some 31) #[true,true,true,true,true,false,false,true,true,true,true,false,false,false] rfl rfl (one_of HT_.out (by kernel_rfl)) (by decide) (fun K hK=>?_)
        refine goes_ Tryd.func48 (by kernel_rfl) rfl #[.agg #[.int .i64 ((rd_T25 l0_2 1).f0),.int .i64 ((rd_T25 l0_2 1).f1),.slice A207_2 ((rd_T25 l0_2 1).f2).length c207_2]] (by rfl) rfl rfl (by (try simp only [List.map_toArray,List.map_cons,List.map_nil]);first | done | rfl | (simp only [List.length_drop,List.length_take];rfl)) ?_
        with_reducible refine (ih k (by omega) ((rd_T25 l0_2 1).f0) ((rd_T25 l0_2 1).f1) _ _ ((rd_T25 l0_2 1).f2) t208 _ ?side1 ?side2 A23.out).mono ?_
        (case side1=>repeat (first | exact (Kd.C_below HR207_2.out HB.out) | (with_reducible refine Kd.C_alloc ?_ _) | (with_reducible refine Kd.C_drewN ?_ _) | (with_reducible refine Kd.C_drew ?_)))
        (case side2=>exact HC207_2.out)
        rintro e w32 ⟨rfl,hb⟩
        refine ⟨_,rfl,?_⟩
        have n0_:=Aside0.mk (blk_below (g:=gb201) (o:=.cells #[.int .i64 a0_0,.int .i64 a0_1,.slice (some ad207) l0_2.length c0_2] 25 (0,0)) (by (with_reducible repeat (first | refine blk_drewN ?_ _ | refine blk_drew ?_ | refine blk_alloc ?_ _));exact BK201.out) hb)
        have n1_:=Aside0.mk (below_step (by repeat (first | (with_reducible first | exact HB.out | apply below_alloc | apply pw_below_drewN | apply below_drew1 | refine below_set ?_ GE201.out) | exact HB.out)) hb)
        clear BK201
        clear HB
        have BK201:=n0_
        have HB:=n1_
        clear n0_ n1_
        (try clear hb)
        (try clear hb2)
        (try clear hk)
        (try clear hi)
        refine hK.out _ _ ⟨(blk_cell BK201.out 0).trans rfl,(blk_cell BK201.out 1).trans rfl,(blk_cell BK201.out 2).trans rfl,((HB.out.cell (World.block_lt_of_cell? w _ hw207_0)).trans hw207_0),((HB.out.cell (World.block_lt_of_cell? w _ hw207_1)).trans hw207_1),((HB.out.cell (World.block_lt_of_cell? w _ hw207_2)).trans hw207_2),((HB.out.cell (World.block_lt_of_cell? w _ hw209_0)).trans hw209_0),((HB.out.cell (World.block_lt_of_cell? w _ hw209_1)).trans hw209_1),((HB.out.cell (World.block_lt_of_cell? w _ hw209_2)).trans hw209_2)⟩ (fun hHeld=>?_)
        clear hK K
        refine norm_ (a':=?_) ?_ ?_
        rotate_left
        ·show Act.put _ (some 31) _ = _
         simp only [Act.put,List.setIfInBounds_toArray,List.set_cons_zero,List.set_cons_succ,i64_w,i32_w]
         rfl
        refine pure_ (i:=5) (N:=some 32) (v:=?_) (a':=?_) #[true,true,true,true,true,true,false,true,true,true,true,false,false,false] rfl rfl (any_of HT_.out (by kernel_rfl)) (fun _ _ _ h=>h) (Or.inl ⟨by rfl,?_⟩) ?_ ?_
        rotate_left;·intro w';go_simp;with_reducible rfl
        rotate_left;·simp only [Act.put,List.setIfInBounds_toArray,List.set_cons_zero,List.set_cons_succ,i64_w,i32_w];rfl
        refine pure_ (i:=6) (N:=some 33) (v:=?_) (a':=?_) #[true,true,true,true,true,true,true,true,true,true,true,false,false,false] rfl rfl (any_of HT_.out (by kernel_rfl)) (fun _ _ _ h=>h) (Or.inl ⟨by rfl,?_⟩) ?_ ?_
        rotate_left;·intro w';go_simp;with_reducible rfl
        rotate_left;·simp only [Act.put,List.setIfInBounds_toArray,List.set_cons_zero,List.set_cons_succ,i64_w,i32_w];rfl
        refine one_ (i:=11) (N:=some 38) #[true,true,true,true,true,true,true,true,true,true,true,true,false,false] rfl rfl (one_of HT_.out (by kernel_rfl)) (by decide) (fun K hK=>?_)
        refine goes_ Tryd.func48 (by kernel_rfl) rfl #[.agg #[.int .i64 ((rd_T25 l0_2 0).f0),.int .i64 ((rd_T25 l0_2 0).f1),.slice A209_2 ((rd_T25 l0_2 0).f2).length c209_2]] (by rfl) rfl rfl (by (try simp only [List.map_toArray,List.map_cons,List.map_nil]);first | done | rfl | (simp only [List.length_drop,List.length_take];rfl)) ?_
        with_reducible refine (ih k (by omega) ((rd_T25 l0_2 0).f0) ((rd_T25 l0_2 0).f1) _ _ ((rd_T25 l0_2 0).f2) t210 _ ?side1 ?side2 A27.out).mono ?_
        (case side1=>repeat (first | exact (Kd.C_below HR209_2.out HB.out) | (with_reducible refine Kd.C_alloc ?_ _) | (with_reducible refine Kd.C_drewN ?_ _) | (with_reducible refine Kd.C_drew ?_)))
        (case side2=>exact HC209_2.out)
        rintro e w33 ⟨rfl,hb⟩
        refine ⟨_,rfl,?_⟩
        have n0_:=Aside0.mk (blk_below (g:=gb201) (o:=.cells #[.int .i64 a0_0,.int .i64 a0_1,.slice (some ad207) l0_2.length c0_2] 25 (0,0)) (by (with_reducible repeat (first | refine blk_drewN ?_ _ | refine blk_drew ?_ | refine blk_alloc ?_ _));exact BK201.out) hb)
        have n1_:=Aside0.mk (below_step (by repeat (first | (with_reducible first | exact HB.out | apply below_alloc | apply pw_below_drewN | apply below_drew1 | refine below_set ?_ GE201.out) | exact HB.out)) hb)
        clear BK201
        clear HB
        have BK201:=n0_
        have HB:=n1_
        clear n0_ n1_
        (try clear hb)
        (try clear hb2)
        (try clear hk)
        (try clear hi)
        refine hK.out _ _ ⟨(blk_cell BK201.out 0).trans rfl,(blk_cell BK201.out 1).trans rfl,(blk_cell BK201.out 2).trans rfl,((HB.out.cell (World.block_lt_of_cell? w _ hw207_0)).trans hw207_0),((HB.out.cell (World.block_lt_of_cell? w _ hw207_1)).trans hw207_1),((HB.out.cell (World.block_lt_of_cell? w _ hw207_2)).trans hw207_2),((HB.out.cell (World.block_lt_of_cell? w _ hw209_0)).trans hw209_0),((HB.out.cell (World.block_lt_of_cell? w _ hw209_1)).trans hw209_1),((HB.out.cell (World.block_lt_of_cell? w _ hw209_2)).trans hw209_2)⟩ (fun hHeld=>?_)
        clear hK K
        refine norm_ (a':=?_) ?_ ?_
        rotate_left
        ·show Act.put _ (some 38) _ = _
         simp only [Act.put,List.setIfInBounds_toArray,List.set_cons_zero,List.set_cons_succ,i64_w,i32_w]
         rfl
        refine pure_ (i:=12) (N:=some 39) (v:=?_) (a':=?_) #[true,true,true,true,true,true,true,true,true,true,true,true,true,false] rfl rfl (any_of HT_.out (by kernel_rfl)) (fun _ _ _ h=>h) (Or.inl ⟨by rfl,?_⟩) ?_ ?_
        rotate_left;·intro w';go_simp;with_reducible rfl
        rotate_left;·simp only [Act.put,List.setIfInBounds_toArray,List.set_cons_zero,List.set_cons_succ,i64_w,i32_w];rfl
        refine pure_ (i:=13) (N:=some 2) (v:=?_) (a':=?_) #[true,true,true,true,true,true,true,true,true,true,true,true,true,true] rfl rfl (any_of HT_.out (by kernel_rfl)) (fun _ _ _ h=>h) (Or.inl ⟨by rfl,?_⟩) ?_ ?_
        rotate_left;·intro w';go_simp;with_reducible rfl
        rotate_left;·simp only [Act.put,List.setIfInBounds_toArray,List.set_cons_zero,List.set_cons_succ,i64_w,i32_w];rfl
        refine done_ (done_of HT_.out (by kernel_rfl)) ?_
        try go_wp2
        go_ret
        exact ⟨by first | rfl | (simp [errW_none,errW_some] <;> rfl) | (simp [*,errW_none,errW_some] <;> rfl),by repeat (first | (with_reducible first | exact HB.out | apply below_alloc | apply pw_below_drewN | apply below_drew1 | refine below_set ?_ GE201.out) | exact HB.out)⟩
       ·rw [if_neg c28] at H
        exact absurd H (by simp)
      ·rw [if_neg c26] at H
       exact absurd H (by simp)
     ·rw [if_neg c25] at H
      exact absurd H (by simp)
    ·rw [if_neg c24] at H
     exact absurd H (by simp)
   ·rw [if_neg c22] at H
    exact absurd H (by simp)
def spec_l6Open.f (l0:List Int):Option (List Int × Int):=if (l0.length:Int) > 2000 then (if 2000 ≤ (l0.length:Int) then (some (l0.take 2000,0)) else (none)) else (some (l0,0))
set_option maxHeartbeats 8000000 in
set_option maxRecDepth 100000 in
theorem spec_l6Open.calls (A0:Option Addr) (c0:Nat) (l0:List Int) (r1:List Int) (r2:Int) (w0 w:World) (hB:Below w0.heap.size w0 w) (hr0:Kd.C (Kd.int .u8) w0 A0 l0.length l0) (hc0:l0.length ≤ c0) (h:spec_l6Open.f l0 = some (r1,r2)) :
  Calls Tryd.prog 39 #[.slice A0 l0.length c0] w fun e w'=>∃ g_:Nat,e = .returned (.pointer (some ⟨g_,0,none⟩))∧IsS73 w0 w' g_ r1 r2∧Below w0.heap.size w0 w'∧Below w.heap.size w w':=by
 have hu73:=Tryd.underlying73
 have HR0:=Aside0.mk hr0
 have HC0:=Aside0.mk hc0
 clear hr0 hc0
 have HBW:=Aside0.mk (Below.refl w.heap.size w)
 have HW0:=Aside0.mk hB.size
 have HB:=Aside0.mk hB
 clear hB
 have H:(if (l0.length:Int) > 2000 then (if 2000 ≤ (l0.length:Int) then (some (l0.take 2000,0)) else (none)) else (some (l0,0))) = some (r1,r2):=h
 clear h
 by_cases c2:(l0.length:Int) > 2000
 ·rw [if_pos c2] at H
  have c2b0:decide (2000 < (l0.length:Int)) = true:=decide_eq_true c2
  have c2b1:decide (2000 < l0.length) = true:=decide_eq_true (by omega)
  clear c2
  by_cases c3:2000 ≤ (l0.length:Int)
  ·rw [if_pos c3] at H
   have c3b0:=eq_true c3
   have c3b1:decide (2000 ≤ (l0.length:Int)) = true:=decide_eq_true c3
   clear c3
   simp only [Option.some.injEq,Prod.mk.injEq] at H
   obtain ⟨rfl,rfl⟩:=H
   obtain ⟨i04,hi04,_,hsz4,_⟩:=info_parts info5
   obtain ⟨hcut4,hA4,hC4⟩:=print_take_of (P:=Tryd.prog) (Value.int .u8) 0 22 5 .i64 Tryd.underlying22 hi04 hsz4 A0 c0 l0 2000 (by omega) (of_decide_eq_true (by first | (with_reducible assumption) | assumption)) HC0.out
   have HR101:=Aside0.mk (Kd.C_of_reads (h1:=fun _=>rfl) (hA4 _ (Kd.reads_of_C HR0.out)))
   have HC101:=Aside0.mk hC4
   clear hA4 hC4 hi04 hsz4
   go_enter Tryd.func39,Tryd.ntmps39
   go_wp2_with (first | ((with_reducible refine gate_dst (N:=10) rfl ?_);refine box_event ?hg (N:=10) ?hd (cs:=#[.slice A0 (l0.take 2000).length c0,.int .i64 0]) (t:=73) ?hr ?_;(case hd=>rfl);(case hg=>rfl);(case hr=>first | (go_simp;done) | (go_simp;rfl));intro gb102 hg w5 hbox hb;have n0_:=Aside0.mk (below_step HBW.out hb);have n1_:=Aside0.mk (below_step (by repeat (first | (with_reducible first | exact HB.out | apply below_alloc | apply pw_below_drewN | apply below_drew1) | exact HB.out)) hb);have n2_:=Aside0.mk (hbox);have n3_:=Aside0.mk ((by rw [hg];exact (below_size (by repeat (first | (with_reducible first | exact HBW.out | apply below_alloc | apply pw_below_drewN | apply below_drew1) | exact HBW.out))):w.heap.size ≤ gb102));have n4_:=Aside0.mk ((Nat.le_trans HW0.out (by rw [hg];exact (below_size (by repeat (first | (with_reducible first | exact HBW.out | apply below_alloc | apply pw_below_drewN | apply below_drew1) | exact HBW.out))):w.heap.size ≤ gb102):w0.heap.size ≤ gb102));clear HBW;clear HB;have HBW:=n0_;have HB:=n1_;have BK102:=n2_;have GW102:=n3_;have GE102:=n4_;clear n0_ n1_ n2_ n3_ n4_;clear hb hbox hg))
   go_ret
   exact ⟨_,rfl,(show IsS73 w0 _ gb102 (l0.take 2000) 0 from ⟨_,_,by (with_reducible repeat (first | refine blk_drewN ?_ _ | refine blk_drew ?_ | refine blk_alloc ?_ _));exact BK102.out,GE102.out,HR101.out⟩),by repeat (first | (with_reducible first | exact HB.out | apply below_alloc | apply pw_below_drewN | apply below_drew1 | refine below_set ?_ GE102.out) | exact HB.out),by repeat (first | (with_reducible first | exact HBW.out | apply below_alloc | apply pw_below_drewN | apply below_drew1 | refine below_set ?_ GW102.out) | exact HBW.out)⟩
  ·rw [if_neg c3] at H
   exact absurd H (by simp)
 ·rw [if_neg c2] at H
  have c2b0:decide (2000 < (l0.length:Int)) = false:=decide_eq_false c2
  have c2b1:decide (2000 < l0.length) = false:=decide_eq_false (by omega)
  clear c2
  simp only [Option.some.injEq,Prod.mk.injEq] at H
  obtain ⟨rfl,rfl⟩:=H
  go_enter Tryd.func39,Tryd.ntmps39
  go_wp2_with (first | ((with_reducible refine gate_dst (N:=10) rfl ?_);refine box_event ?hg (N:=10) ?hd (cs:=#[.slice A0 l0.length c0,.int .i64 0]) (t:=73) ?hr ?_;(case hd=>rfl);(case hg=>rfl);(case hr=>first | (go_simp;done) | (go_simp;rfl));intro gb103 hg w6 hbox hb;have n0_:=Aside0.mk (below_step HBW.out hb);have n1_:=Aside0.mk (below_step (by repeat (first | (with_reducible first | exact HB.out | apply below_alloc | apply pw_below_drewN | apply below_drew1) | exact HB.out)) hb);have n2_:=Aside0.mk (hbox);have n3_:=Aside0.mk ((by rw [hg];exact (below_size (by repeat (first | (with_reducible first | exact HBW.out | apply below_alloc | apply pw_below_drewN | apply below_drew1) | exact HBW.out))):w.heap.size ≤ gb103));have n4_:=Aside0.mk ((Nat.le_trans HW0.out (by rw [hg];exact (below_size (by repeat (first | (with_reducible first | exact HBW.out | apply below_alloc | apply pw_below_drewN | apply below_drew1) | exact HBW.out))):w.heap.size ≤ gb103):w0.heap.size ≤ gb103));clear HBW;clear HB;have HBW:=n0_;have HB:=n1_;have BK103:=n2_;have GW103:=n3_;have GE103:=n4_;clear n0_ n1_ n2_ n3_ n4_;clear hb hbox hg))
  go_ret
  exact ⟨_,rfl,(show IsS73 w0 _ gb103 l0 0 from ⟨_,_,by (with_reducible repeat (first | refine blk_drewN ?_ _ | refine blk_drew ?_ | refine blk_alloc ?_ _));exact BK103.out,GE103.out,HR0.out⟩),by repeat (first | (with_reducible first | exact HB.out | apply below_alloc | apply pw_below_drewN | apply below_drew1 | refine below_set ?_ GE103.out) | exact HB.out),by repeat (first | (with_reducible first | exact HBW.out | apply below_alloc | apply pw_below_drewN | apply below_drew1 | refine below_set ?_ GW103.out) | exact HBW.out)⟩
def spec_l6Rd_pick.j0:Nat → Int → Bool → List Int → Int → Option (Int × Int)
 | 0,_,_,_,_=>none
 | k + 1,x1,x24,x1000,x1001=>if x24 = true then (some (0,x1001)) else (if (wrap64 (x1001 - 1)) < (x1000.length:Int) then (if 0 ≤ (wrap64 (x1001 - 1)) then (if x1 = 0 then (none) else (some (Int.tmod (wrap64 (rd x1000 (wrap64 (x1001 - 1)))) x1,x1001))) else (none)) else (if (x1000.length:Int) = 0 then (none) else (if 0 ≤ (Int.tmod (wrap64 (x1001 - 1)) (x1000.length:Int)) then (if (Int.tmod (wrap64 (x1001 - 1)) (x1000.length:Int)) < (x1000.length:Int) then (if 0 ≤ (Int.tmod (wrap64 ((wrap64 ((wrap64 (x1001 - 1)) * 7)) + 3)) (x1000.length:Int)) then (if (Int.tmod (wrap64 ((wrap64 ((wrap64 (x1001 - 1)) * 7)) + 3)) (x1000.length:Int)) < (x1000.length:Int) then (if x1 = 0 then (none) else (some (Int.tmod (Go.bits .xor .i64 (wrap64 ((wrap64 ((wrap64 ((wrap64 ((wrap64 (rd x1000 (Int.tmod (wrap64 (x1001 - 1)) (x1000.length:Int)))) * 131)) + (wrap64 ((wrap64 (rd x1000 (Int.tmod (wrap64 ((wrap64 ((wrap64 (x1001 - 1)) * 7)) + 3)) (x1000.length:Int)))) * 1117)))) + (wrap64 ((wrap64 (x1001 - 1)) * 29)))) + (wrap64 ((wrap64 (Int.tdiv (wrap64 (x1001 - 1)) (x1000.length:Int))) * 53)))) (wrap64 (Int.tdiv (wrap64 ((wrap64 ((wrap64 ((wrap64 ((wrap64 (rd x1000 (Int.tmod (wrap64 (x1001 - 1)) (x1000.length:Int)))) * 131)) + (wrap64 ((wrap64 (rd x1000 (Int.tmod (wrap64 ((wrap64 ((wrap64 (x1001 - 1)) * 7)) + 3)) (x1000.length:Int)))) * 1117)))) + (wrap64 ((wrap64 (x1001 - 1)) * 29)))) + (wrap64 ((wrap64 (Int.tdiv (wrap64 (x1001 - 1)) (x1000.length:Int))) * 53)))) 64))) x1,x1001))) else (none)) else (none)) else (none)) else (none))))
def spec_l6Rd_pick.f (k:Nat) (s0_0:List Int) (s0_1:Int) (a1:Int):Option (Int × Int):=if a1 < 1 then (spec_l6Rd_pick.j0 k a1 true s0_0 (wrap64 (s0_1 + 1))) else (spec_l6Rd_pick.j0 k a1 ((s0_0.length:Int) == 0) s0_0 (wrap64 (s0_1 + 1)))
theorem spec_l6Rd_pick.mono_l:∀ k,(∀ y0 y1 y2 y3,LeO (spec_l6Rd_pick.j0 k y0 y1 y2 y3) (spec_l6Rd_pick.j0 (k + 1) y0 y1 y2 y3))
 | 0=>fun _ _ _ _ r h=>by simp [spec_l6Rd_pick.j0] at h
 | k + 1=>by
  have ih0:=spec_l6Rd_pick.mono_l k
  ·intro y0 y1 y2 y3
   unfold spec_l6Rd_pick.j0
   repeat' first
   | (with_reducible exact ih0 _ _ _ _)
   | (with_reducible exact LeO.refl _)
   | (with_reducible exact LeO.none _)
   | (with_reducible refine LeO.ite ?_ ?_)
   | (with_reducible refine LeO.bind ?_ (fun _=>?_))
   | exact ih0 _ _ _ _
   | exact LeO.none _
   | refine LeO.ite ?_ ?_
   | refine LeO.bind ?_ (fun _=>?_)
theorem spec_l6Rd_pick.mono:∀ a0 a1 a2 k,LeO (spec_l6Rd_pick.f k a0 a1 a2) (spec_l6Rd_pick.f (k + 1) a0 a1 a2):=by
 intro a0 a1 a2 k
 have ih0:=spec_l6Rd_pick.mono_l k
 unfold spec_l6Rd_pick.f
 repeat' first
   | (with_reducible exact ih0 _ _ _ _)
   | (with_reducible exact LeO.refl _)
   | (with_reducible exact LeO.none _)
   | (with_reducible refine LeO.ite ?_ ?_)
   | (with_reducible refine LeO.bind ?_ (fun _=>?_))
   | exact ih0 _ _ _ _
   | exact LeO.none _
   | refine LeO.ite ?_ ?_
   | refine LeO.bind ?_ (fun _=>?_)
set_option maxHeartbeats 8000000 in
set_option maxRecDepth 100000 in
theorem spec_l6Rd_pick.calls (k:Nat) (g:Nat) (s0_0:List Int) (s0_1:Int) (a1:Int) (r1:Int) (r2:Int) (w0 w:World) (hI:IsS73 w0 w g s0_0 s0_1) (hB:Below w0.heap.size w0 w) (h:spec_l6Rd_pick.f k s0_0 s0_1 a1 = some (r1,r2)) :
  Calls Tryd.prog 41 #[.pointer (some ⟨g,0,none⟩),.int .i64 a1] w fun e w'=>e = .returned (.int .i64 r1)∧IsS73 w0 w' g s0_0 r2∧Below w0.heap.size w0 w'∧KeepBut w w' g none:=by
 have HI0:=Aside0.mk hI
 have HK:=Aside0.mk (KeepBut.refl w g none)
 have HL:=Aside0.mk hB.size
 clear hI
 have HW0:=Aside0.mk hB.size
 have HB:=Aside0.mk hB
 clear hB
 have H:(if a1 < 1 then (spec_l6Rd_pick.j0 k a1 true s0_0 (wrap64 (s0_1 + 1))) else (spec_l6Rd_pick.j0 k a1 ((s0_0.length:Int) == 0) s0_0 (wrap64 (s0_1 + 1)))) = some (r1,r2):=h
 clear h
 have HC3:=Aside0.mk H
 clear H
 obtain ⟨ASz4_0,cSz4_0,HGz4,hgz4,HSz4_0⟩:=HI0.out
 have hcz4_0:=cellS73_0 HGz4
 have hcz4_1:=cellS73_1 HGz4
 have hfz4_1:=blk_frozen HGz4 1
 clear HGz4 hgz4
 go_enter Tryd.func41,Tryd.ntmps41
 go_upto_region 2 with (fail)
 repeat (go_quiet (fail);go_upto_region 2 with (fail))
 go_cut [24] (fun v24 wc=>∃ (kq:Nat) (x24_2:Bool),v24 = .bool x24_2∧Aside0 (spec_l6Rd_pick.j0 kq a1 x24_2 s0_0 (wrap64 (s0_1 + 1)) = some (r1,r2))∧Aside0 (kq ≤ k)∧Aside0 (IsS73 w0 wc g s0_0 (wrap64 (s0_1 + 1)))∧Aside0 (KeepBut w wc g none)∧Aside0 (Below w0.heap.size w0 wc))
 case first =>
  have H:=HC3.out
  clear HC3
  by_cases c5:a1 < 1
  ·rw [if_pos c5] at H
   have c5b0:decide (a1 < 1) = true:=decide_eq_true c5
   clear c5
   (first | rw [c5b0] | (simp only [i64_w,i32_w];rw [c5b0]) | skip)
   have H':=Aside0.mk H
   clear H
   go_wp2
   repeat (go_quiet (fail);try go_wp2)
   go_meet
   case rel=>exact ⟨_,(true),(by first | rfl | (simp;done) | (simp [*];done)),H',⟨by first | omega | exact Nat.le_refl _⟩,⟨by repeat (first | (with_reducible first | exact HI0.out | apply IsS73.alloc | apply IsS73.drewN | apply IsS73.drew | apply IsS73.set_1) | exact HI0.out)⟩,⟨by repeat (first | (with_reducible first | exact HK.out | apply KeepBut.set_ | apply keep_drewN | apply keep_drew | apply keep_alloc) | exact HK.out)⟩,⟨by repeat (first | (with_reducible first | exact HB.out | apply below_alloc | apply pw_below_drewN | apply below_drew1 | refine below_set ?_ (IsS73.ge HI0.out)) | exact HB.out)⟩⟩
  ·rw [if_neg c5] at H
   have c5b0:decide (a1 < 1) = false:=decide_eq_false c5
   clear c5
   (first | rw [c5b0] | (simp only [i64_w,i32_w];rw [c5b0]) | skip)
   have H':=Aside0.mk H
   clear H
   obtain ⟨ASz6_0,cSz6_0,HGz6,hgz6,HSz6_0⟩:=HI0.out
   have hcz6_0:=cellS73_0 HGz6
   have hcz6_1:=cellS73_1 HGz6
   have hfz6_1:=blk_frozen HGz6 1
   clear HGz6 hgz6
   go_wp2
   repeat (go_quiet (fail);try go_wp2)
   go_meet
   case rel=>exact ⟨_,(((s0_0.length:Int) == 0)),(by first | rfl | (simp;done) | (simp [*];done)),H',⟨by first | omega | exact Nat.le_refl _⟩,⟨by repeat (first | (with_reducible first | exact HI0.out | apply IsS73.alloc | apply IsS73.drewN | apply IsS73.drew | apply IsS73.set_1) | exact HI0.out)⟩,⟨by repeat (first | (with_reducible first | exact HK.out | apply KeepBut.set_ | apply keep_drewN | apply keep_drew | apply keep_alloc) | exact HK.out)⟩,⟨by repeat (first | (with_reducible first | exact HB.out | apply below_alloc | apply pw_below_drewN | apply below_drew1 | refine below_set ?_ (IsS73.ge HI0.out)) | exact HB.out)⟩⟩
 case rest =>
  clear HC3
  try clear p2
  try clear c4
  try clear c5
  try clear c5b0
  try clear p6
  try clear hcz4_0
  try clear hcz4_1
  try clear hcz6_0
  try clear hcz6_1
  try clear hfz4_1
  try clear hfz6_1
  obtain ⟨kq,x24_2,rfl,HA,HJ2,HI0,HK,HB⟩:=hcut
  cases kq with
  | zero=>exact absurd HA.out (by simp [spec_l6Rd_pick.j0])
  | succ kj2 =>
   have H:=HA.out
   clear HA
   simp only [spec_l6Rd_pick.j0] at H
   by_cases c7:x24_2 = true
   ·subst c7
    have H1:(some (0,(wrap64 (s0_1 + 1)))) = some (r1,r2):=by rw [if_pos rfl] at H;exact H
    clear H
    have H:=H1
    clear H1
    simp only [Option.some.injEq,Prod.mk.injEq] at H
    obtain ⟨rfl,rfl⟩:=H
    go_wp2
    repeat (go_quiet (fail);try go_wp2)
    go_ret
    exact ⟨by first | rfl | (simp [errW_none,errW_some] <;> rfl) | (simp [*,errW_none,errW_some] <;> rfl),by repeat (first | (with_reducible first | exact HI0.out | apply IsS73.alloc | apply IsS73.drewN | apply IsS73.drew | apply IsS73.set_1) | exact HI0.out),by repeat (first | (with_reducible first | exact HB.out | apply below_alloc | apply pw_below_drewN | apply below_drew1 | refine below_set ?_ (IsS73.ge HI0.out)) | exact HB.out),by repeat (first | (with_reducible first | exact HK.out | apply KeepBut.set_ | apply keep_drewN | apply keep_drew | apply keep_alloc) | exact HK.out)⟩
   ·replace c7:=Bool.eq_false_iff.mpr c7
    subst c7
    have H1:(if (wrap64 ((wrap64 (s0_1 + 1)) - 1)) < (s0_0.length:Int) then (if 0 ≤ (wrap64 ((wrap64 (s0_1 + 1)) - 1)) then (if a1 = 0 then (none) else (some (Int.tmod (wrap64 (rd s0_0 (wrap64 ((wrap64 (s0_1 + 1)) - 1)))) a1,(wrap64 (s0_1 + 1))))) else (none)) else (if (s0_0.length:Int) = 0 then (none) else (if 0 ≤ (Int.tmod (wrap64 ((wrap64 (s0_1 + 1)) - 1)) (s0_0.length:Int)) then (if (Int.tmod (wrap64 ((wrap64 (s0_1 + 1)) - 1)) (s0_0.length:Int)) < (s0_0.length:Int) then (if 0 ≤ (Int.tmod (wrap64 ((wrap64 ((wrap64 ((wrap64 (s0_1 + 1)) - 1)) * 7)) + 3)) (s0_0.length:Int)) then (if (Int.tmod (wrap64 ((wrap64 ((wrap64 ((wrap64 (s0_1 + 1)) - 1)) * 7)) + 3)) (s0_0.length:Int)) < (s0_0.length:Int) then (if a1 = 0 then (none) else (some (Int.tmod (Go.bits .xor .i64 (wrap64 ((wrap64 ((wrap64 ((wrap64 ((wrap64 (rd s0_0 (Int.tmod (wrap64 ((wrap64 (s0_1 + 1)) - 1)) (s0_0.length:Int)))) * 131)) + (wrap64 ((wrap64 (rd s0_0 (Int.tmod (wrap64 ((wrap64 ((wrap64 ((wrap64 (s0_1 + 1)) - 1)) * 7)) + 3)) (s0_0.length:Int)))) * 1117)))) + (wrap64 ((wrap64 ((wrap64 (s0_1 + 1)) - 1)) * 29)))) + (wrap64 ((wrap64 (Int.tdiv (wrap64 ((wrap64 (s0_1 + 1)) - 1)) (s0_0.length:Int))) * 53)))) (wrap64 (Int.tdiv (wrap64 ((wrap64 ((wrap64 ((wrap64 ((wrap64 (rd s0_0 (Int.tmod (wrap64 ((wrap64 (s0_1 + 1)) - 1)) (s0_0.length:Int)))) * 131)) + (wrap64 ((wrap64 (rd s0_0 (Int.tmod (wrap64 ((wrap64 ((wrap64 ((wrap64 (s0_1 + 1)) - 1)) * 7)) + 3)) (s0_0.length:Int)))) * 1117)))) + (wrap64 ((wrap64 ((wrap64 (s0_1 + 1)) - 1)) * 29)))) + (wrap64 ((wrap64 (Int.tdiv (wrap64 ((wrap64 (s0_1 + 1)) - 1)) (s0_0.length:Int))) * 53)))) 64))) a1,(wrap64 (s0_1 + 1))))) else (none)) else (none)) else (none)) else (none)))) = some (r1,r2):=by rw [if_neg (show ¬ (false = true) by decide)] at H;exact H
    clear H
    have H:=H1
    clear H1
    by_cases c8:(wrap64 ((wrap64 (s0_1 + 1)) - 1)) < (s0_0.length:Int)
    ·rw [if_pos c8] at H
     have c8b0:decide ((wrap64 ((wrap64 (s0_1 + 1)) - 1)) < (s0_0.length:Int)) = true:=decide_eq_true c8
     clear c8
     obtain ⟨ji9,hji9⟩:∃ j_:Int,(wrap64 ((wrap64 (s0_1 + 1)) - 1)) = j_:=⟨_,rfl⟩
     replace H:(if 0 ≤ (ji9) then (if a1 = 0 then (none) else (some (Int.tmod (wrap64 (rd s0_0 (ji9))) a1,(wrap64 (s0_1 + 1))))) else (none)) = some (r1,r2):=by first | (rw [hji9] at H;exact H) | (simp only [hji9] at H ⊢;exact H)
     (try rw [hji9] at c8b0)
     have hji9w:(IntKind.i64.wrap ((wrap64 (s0_1 + 1)) - 1)) = ji9:=(i64_w _).trans hji9
     by_cases c10:0 ≤ (ji9)
     ·rw [if_pos c10] at H
      have c10b0:decide (0 ≤ (ji9)) = true:=decide_eq_true c10
      clear c10
      by_cases c11:a1 = 0
      ·rw [if_pos c11] at H
       exact absurd H (by simp)
      ·rw [if_neg c11] at H
       have c11b0:(a1 == 0) = false:=beq_eq_false_iff_ne.mpr c11
       have c11b1:(a1 != 0) = true:=bne_iff_ne.mpr c11
       simp only [Option.some.injEq,Prod.mk.injEq] at H
       obtain ⟨rfl,rfl⟩:=H
       obtain ⟨ASz12_0,cSz12_0,HGz12,hgz12,HSz12_0⟩:=HI0.out
       have hcz12_0:=cellS73_0 HGz12
       have hcz12_1:=cellS73_1 HGz12
       have hfz12_1:=blk_frozen HGz12 1
       clear HGz12 hgz12
       have p104:0 ≤ ((ji9):Int):=of_decide_eq_true (by first | (with_reducible assumption) | assumption)
       have q104:(ji9) < (s0_0.length:Int):=of_decide_eq_true (by first | (with_reducible assumption) | assumption)
       obtain ⟨ad104,e104,hx104_0⟩:=Kd.at_int HSz12_0 (ji9) p104 q104
       cases e104
       replace hx104_0:=pw_cell_below HB.out hx104_0
       replace p104:=eq_true p104
       replace q104:=eq_true q104
       go_wp2
       repeat (go_quiet (fail);try go_wp2)
       go_ret
       exact ⟨by first | rfl | (simp [errW_none,errW_some] <;> rfl) | (simp only [← hji9];first | rfl | (simp [errW_none,errW_some] <;> rfl)) | (simp [*,errW_none,errW_some] <;> rfl),by repeat (first | (with_reducible first | exact HI0.out | apply IsS73.alloc | apply IsS73.drewN | apply IsS73.drew | apply IsS73.set_1) | exact HI0.out),by repeat (first | (with_reducible first | exact HB.out | apply below_alloc | apply pw_below_drewN | apply below_drew1 | refine below_set ?_ (IsS73.ge HI0.out)) | exact HB.out),by repeat (first | (with_reducible first | exact HK.out | apply KeepBut.set_ | apply keep_drewN | apply keep_drew | apply keep_alloc) | exact HK.out)⟩
     ·rw [if_neg c10] at H
      exact absurd H (by simp)
    ·rw [if_neg c8] at H
     have c8b0:decide ((wrap64 ((wrap64 (s0_1 + 1)) - 1)) < (s0_0.length:Int)) = false:=decide_eq_false c8
     clear c8
     by_cases c13:(s0_0.length:Int) = 0
     ·rw [if_pos c13] at H
      exact absurd H (by simp)
     ·rw [if_neg c13] at H
      have c13b0:((s0_0.length:Int) == 0) = false:=beq_eq_false_iff_ne.mpr c13
      have c13b1:((s0_0.length:Int) != 0) = true:=bne_iff_ne.mpr c13
      have c13b2:¬ (s0_0 = []):=fun h_=>c13 (by rw [h_];rfl)
      obtain ⟨ji14,hji14⟩:∃ j_:Int,(Int.tmod (wrap64 ((wrap64 (s0_1 + 1)) - 1)) (s0_0.length:Int)) = j_:=⟨_,rfl⟩
      replace H:(if 0 ≤ (ji14) then (if (ji14) < (s0_0.length:Int) then (if 0 ≤ (Int.tmod (wrap64 ((wrap64 ((wrap64 ((wrap64 (s0_1 + 1)) - 1)) * 7)) + 3)) (s0_0.length:Int)) then (if (Int.tmod (wrap64 ((wrap64 ((wrap64 ((wrap64 (s0_1 + 1)) - 1)) * 7)) + 3)) (s0_0.length:Int)) < (s0_0.length:Int) then (if a1 = 0 then (none) else (some (Int.tmod (Go.bits .xor .i64 (wrap64 ((wrap64 ((wrap64 ((wrap64 ((wrap64 (rd s0_0 (ji14))) * 131)) + (wrap64 ((wrap64 (rd s0_0 (Int.tmod (wrap64 ((wrap64 ((wrap64 ((wrap64 (s0_1 + 1)) - 1)) * 7)) + 3)) (s0_0.length:Int)))) * 1117)))) + (wrap64 ((wrap64 ((wrap64 (s0_1 + 1)) - 1)) * 29)))) + (wrap64 ((wrap64 (Int.tdiv (wrap64 ((wrap64 (s0_1 + 1)) - 1)) (s0_0.length:Int))) * 53)))) (wrap64 (Int.tdiv (wrap64 ((wrap64 ((wrap64 ((wrap64 ((wrap64 (rd s0_0 (ji14))) * 131)) + (wrap64 ((wrap64 (rd s0_0 (Int.tmod (wrap64 ((wrap64 ((wrap64 ((wrap64 (s0_1 + 1)) - 1)) * 7)) + 3)) (s0_0.length:Int)))) * 1117)))) + (wrap64 ((wrap64 ((wrap64 (s0_1 + 1)) - 1)) * 29)))) + (wrap64 ((wrap64 (Int.tdiv (wrap64 ((wrap64 (s0_1 + 1)) - 1)) (s0_0.length:Int))) * 53)))) 64))) a1,(wrap64 (s0_1 + 1))))) else (none)) else (none)) else (none)) else (none)) = some (r1,r2):=by first | (rw [hji14] at H;exact H) | (simp only [hji14] at H ⊢;exact H)
      by_cases c15:0 ≤ (ji14)
      ·rw [if_pos c15] at H
       have c15b0:decide (0 ≤ (ji14)) = true:=decide_eq_true c15
       clear c15
       by_cases c16:(ji14) < (s0_0.length:Int)
       ·rw [if_pos c16] at H
        have c16b0:decide ((ji14) < (s0_0.length:Int)) = true:=decide_eq_true c16
        clear c16
        obtain ⟨ji17,hji17⟩:∃ j_:Int,(Int.tmod (wrap64 ((wrap64 ((wrap64 ((wrap64 (s0_1 + 1)) - 1)) * 7)) + 3)) (s0_0.length:Int)) = j_:=⟨_,rfl⟩
        replace H:(if 0 ≤ (ji17) then (if (ji17) < (s0_0.length:Int) then (if a1 = 0 then (none) else (some (Int.tmod (Go.bits .xor .i64 (wrap64 ((wrap64 ((wrap64 ((wrap64 ((wrap64 (rd s0_0 (ji14))) * 131)) + (wrap64 ((wrap64 (rd s0_0 (ji17))) * 1117)))) + (wrap64 ((wrap64 ((wrap64 (s0_1 + 1)) - 1)) * 29)))) + (wrap64 ((wrap64 (Int.tdiv (wrap64 ((wrap64 (s0_1 + 1)) - 1)) (s0_0.length:Int))) * 53)))) (wrap64 (Int.tdiv (wrap64 ((wrap64 ((wrap64 ((wrap64 ((wrap64 (rd s0_0 (ji14))) * 131)) + (wrap64 ((wrap64 (rd s0_0 (ji17))) * 1117)))) + (wrap64 ((wrap64 ((wrap64 (s0_1 + 1)) - 1)) * 29)))) + (wrap64 ((wrap64 (Int.tdiv (wrap64 ((wrap64 (s0_1 + 1)) - 1)) (s0_0.length:Int))) * 53)))) 64))) a1,(wrap64 (s0_1 + 1))))) else (none)) else (none)) = some (r1,r2):=by first | (rw [hji17] at H;exact H) | (simp only [hji17] at H ⊢;exact H)
        by_cases c18:0 ≤ (ji17)
        ·rw [if_pos c18] at H
         have c18b0:decide (0 ≤ (ji17)) = true:=decide_eq_true c18
         clear c18
         by_cases c19:(ji17) < (s0_0.length:Int)
         ·rw [if_pos c19] at H
          have c19b0:decide ((ji17) < (s0_0.length:Int)) = true:=decide_eq_true c19
          clear c19
          by_cases c20:a1 = 0
          ·rw [if_pos c20] at H
           exact absurd H (by simp)
          ·rw [if_neg c20] at H
           have c20b0:(a1 == 0) = false:=beq_eq_false_iff_ne.mpr c20
           have c20b1:(a1 != 0) = true:=bne_iff_ne.mpr c20
           simp only [Option.some.injEq,Prod.mk.injEq] at H
           obtain ⟨rfl,rfl⟩:=H
           obtain ⟨ASz21_0,cSz21_0,HGz21,hgz21,HSz21_0⟩:=HI0.out
           have hcz21_0:=cellS73_0 HGz21
           have hcz21_1:=cellS73_1 HGz21
           have hfz21_1:=blk_frozen HGz21 1
           clear HGz21 hgz21
           have p105:0 ≤ ((ji14):Int):=of_decide_eq_true (by first | (with_reducible assumption) | assumption)
           have q105:(ji14) < (s0_0.length:Int):=of_decide_eq_true (by first | (with_reducible assumption) | assumption)
           obtain ⟨ad105,e105,hx105_0⟩:=Kd.at_int HSz21_0 (ji14) p105 q105
           cases e105
           replace hx105_0:=pw_cell_below HB.out hx105_0
           replace p105:=eq_true p105
           replace q105:=eq_true q105
           have p106:0 ≤ ((ji17):Int):=of_decide_eq_true (by first | (with_reducible assumption) | assumption)
           have q106:(ji17) < (s0_0.length:Int):=of_decide_eq_true (by first | (with_reducible assumption) | assumption)
           obtain ⟨ad106,e106,hx106_0⟩:=Kd.at_int HSz21_0 (ji17) p106 q106
           obtain rfl:ad105 = ad106:=(by injection e106)
           replace hx106_0:=pw_cell_below HB.out hx106_0
           replace p106:=eq_true p106
           replace q106:=eq_true q106
           go_wp2
           repeat (go_quiet (fail);try go_wp2)
           go_ret
           exact ⟨by first | rfl | (simp [errW_none,errW_some] <;> rfl) | (simp only [← hji14,← hji17];first | rfl | (simp [errW_none,errW_some] <;> rfl)) | (simp [*,errW_none,errW_some] <;> rfl),by repeat (first | (with_reducible first | exact HI0.out | apply IsS73.alloc | apply IsS73.drewN | apply IsS73.drew | apply IsS73.set_1) | exact HI0.out),by repeat (first | (with_reducible first | exact HB.out | apply below_alloc | apply pw_below_drewN | apply below_drew1 | refine below_set ?_ (IsS73.ge HI0.out)) | exact HB.out),by repeat (first | (with_reducible first | exact HK.out | apply KeepBut.set_ | apply keep_drewN | apply keep_drew | apply keep_alloc) | exact HK.out)⟩
         ·rw [if_neg c19] at H
          exact absurd H (by simp)
        ·rw [if_neg c18] at H
         exact absurd H (by simp)
       ·rw [if_neg c16] at H
        exact absurd H (by simp)
      ·rw [if_neg c15] at H
       exact absurd H (by simp)
def spec_l20Known.l0:Nat → List (S25) → Int → Option (Bool)
 | 0,_,_=>none
 | k + 1,x0,x3=>if x3 < (x0.length:Int) then (if 0 ≤ x3 then ((spec_SealOk.f k ((rd_T25 x0 x3).f0) ((rd_T25 x0 x3).f1) ((rd_T25 x0 x3).f2)).bind fun t453=>(if t453 = true then (spec_l20Known.l0 k x0 (wrap64 (x3 + 1))) else (some false))) else (none)) else (some (decide ((x0.length:Int) ≤ 6)))
def spec_l20Known.f (k:Nat) (l0:List (S25)):Option (Bool):=spec_l20Known.l0 k l0 0
theorem spec_l20Known.mono_l:∀ k,(∀ y0 y1,LeO (spec_l20Known.l0 k y0 y1) (spec_l20Known.l0 (k + 1) y0 y1))
 | 0=>fun _ _ r h=>by simp [spec_l20Known.l0] at h
 | k + 1=>by
  have ih0:=spec_l20Known.mono_l k
  ·intro y0 y1
   unfold spec_l20Known.l0
   repeat' first
   | (with_reducible exact ih0 _ _)
   | (with_reducible exact spec_SealOk.mono _ _ _ _)
   | (with_reducible exact LeO.refl _)
   | (with_reducible exact LeO.none _)
   | (with_reducible refine LeO.ite ?_ ?_)
   | (with_reducible refine LeO.bind ?_ (fun _=>?_))
   | exact ih0 _ _
   | exact spec_SealOk.mono _ _ _ _
   | exact LeO.none _
   | refine LeO.ite ?_ ?_
   | refine LeO.bind ?_ (fun _=>?_)
theorem spec_l20Known.mono:∀ a0 k,LeO (spec_l20Known.f k a0) (spec_l20Known.f (k + 1) a0):=by
 intro a0 k
 have ih0:=spec_l20Known.mono_l k
 unfold spec_l20Known.f
 repeat' first
   | (with_reducible exact ih0 _ _)
   | (with_reducible exact spec_SealOk.mono _ _ _ _)
   | (with_reducible exact LeO.refl _)
   | (with_reducible exact LeO.none _)
   | (with_reducible refine LeO.ite ?_ ?_)
   | (with_reducible refine LeO.bind ?_ (fun _=>?_))
   | exact ih0 _ _
   | exact spec_SealOk.mono _ _ _ _
   | exact LeO.none _
   | refine LeO.ite ?_ ?_
   | refine LeO.bind ?_ (fun _=>?_)
set_option maxHeartbeats 8000000 in
set_option maxRecDepth 100000 in
theorem spec_l20Known.calls (k:Nat) (A0:Option Addr) (c0:Nat) (l0:List (S25)) (r:Bool) (w:World) (hr0:Kd.C k25 w A0 l0.length l0) (hc0:l0.length ≤ c0) (h:spec_l20Known.f k l0 = some r) :
  Calls Tryd.prog 51 #[.slice A0 l0.length c0] w fun e w'=>e = .returned (.bool r)∧Below w.heap.size w w':=by
 have hu25:=Tryd.underlying25
 have HR0:=Aside0.mk hr0
 have HC0:=Aside0.mk hc0
 clear hr0 hc0
 have HB:=Aside0.mk (Below.refl w.heap.size w)
 have H:(spec_l20Known.l0 k l0 0) = some r:=h
 clear h
 have H':=Aside0.mk H
 clear H
 go_enter Tryd.func51,Tryd.ntmps51
 go_wp2
 go_loopg [3] k (fun kq v3 w'=>∃ (x3_1:Int),v3 = .int .i64 x3_1∧Aside0 (spec_l20Known.l0 kq l0 x3_1 = some r)∧Aside0 (kq ≤ k)∧Aside0 (Below w.heap.size w w'))
 case atStart=>exact ⟨(0),(by first | rfl | (simp;done) | (simp [*];done)),H',⟨Nat.le_refl _⟩,⟨by repeat (first | (with_reducible first | exact HB.out | apply below_alloc | apply pw_below_drewN | apply below_drew1) | exact HB.out)⟩⟩
 case round =>
  clear H'
  obtain ⟨x3_1,rfl,HA,HK1,HB⟩:=hrel
  cases gk with
  | zero=>exact absurd HA.out (by simp [spec_l20Known.l0])
  | succ k1 =>
   have H:=HA.out
   clear HA
   simp only [spec_l20Known.l0] at H
   by_cases c2:x3_1 < (l0.length:Int)
   ·rw [if_pos c2] at H
    have c2b0:decide (x3_1 < (l0.length:Int)) = true:=decide_eq_true c2
    clear c2
    by_cases c3:0 ≤ x3_1
    ·rw [if_pos c3] at H
     have c3b0:decide (0 ≤ x3_1) = true:=decide_eq_true c3
     clear c3
     replace H:=Option.bind_eq_some_iff.mp H
     obtain ⟨t453,A40,H⟩:=H
     replace H:(if t453 = true then (spec_l20Known.l0 k1 l0 (wrap64 (x3_1 + 1))) else (some false)) = some r:=H
     have A4:=Aside0.mk A40
     clear A40
     by_cases c5:t453 = true
     ·subst c5
      have H1:(spec_l20Known.l0 k1 l0 (wrap64 (x3_1 + 1))) = some r:=by rw [if_pos rfl] at H;exact H
      clear H
      have H:=H1
      clear H1
      have H':=Aside0.mk H
      clear H
      have p452:0 ≤ (x3_1:Int):=of_decide_eq_true (by first | (with_reducible assumption) | assumption)
      have q452:x3_1 < (l0.length:Int):=of_decide_eq_true (by first | (with_reducible assumption) | assumption)
      obtain ⟨ad452,A452_2,c452_2,e452,hx452_0,hx452_1,hx452_2,hl452_2,hi452_2⟩:=at_T25 HR0.out x3_1 p452 q452
      cases e452
      replace hx452_0:=(HB.out.cell (World.block_lt_of_cell? w _ hx452_0)).trans hx452_0
      replace hx452_1:=(HB.out.cell (World.block_lt_of_cell? w _ hx452_1)).trans hx452_1
      replace hx452_2:=(HB.out.cell (World.block_lt_of_cell? w _ hx452_2)).trans hx452_2
      have HR452_2:=Aside0.mk hi452_2
      have HC452_2:=Aside0.mk hl452_2
      clear hi452_2 hl452_2
      replace p452:=eq_true p452
      replace q452:=eq_true q452
      go_wp2_with (first | ((with_reducible refine gate_callee (f:=15) rfl ?_);refine goesL_ (some 14) rfl rfl Tryd.func15 (by kernel_rfl) rfl #[.agg #[.int .i64 ((rd_T25 l0 x3_1).f0),.int .i64 ((rd_T25 l0 x3_1).f1),.slice A452_2 ((rd_T25 l0 x3_1).f2).length c452_2]] rfl (by (try simp only [List.map_toArray,List.map_cons,List.map_nil]);first | done | rfl | (simp only [List.length_drop,List.length_take];rfl)) ?_;(with_reducible refine (spec_SealOk.calls k1 ((rd_T25 l0 x3_1).f0) ((rd_T25 l0 x3_1).f1) _ _ ((rd_T25 l0 x3_1).f2) true _ ?side1 ?side2 A4.out).mono ?_);(case side1=>repeat (first | exact (Kd.C_below HR452_2.out HB.out) | (with_reducible refine Kd.C_alloc ?_ _) | (with_reducible refine Kd.C_drewN ?_ _) | (with_reducible refine Kd.C_drew ?_)));(case side2=>exact HC452_2.out);rintro e w6 ⟨rfl,hb⟩;refine ⟨_,rfl,?_⟩;have n0_:=Aside0.mk (below_step (by repeat (first | (with_reducible first | exact HB.out | apply below_alloc | apply pw_below_drewN | apply below_drew1) | exact HB.out)) hb);clear HB;have HB:=n0_;clear n0_;(try clear hb);(try clear hb2);(try clear hk);(try clear hi)))
      go_roundg k1
      case measure=>have:=HK1.out;omega
      case rel=>exact ⟨(wrap64 (x3_1 + 1)),(by first | rfl | (simp;done) | (simp [*];done)),H',⟨by have:=HK1.out;omega⟩,⟨by repeat (first | (with_reducible first | exact HB.out | apply below_alloc | apply pw_below_drewN | apply below_drew1) | exact HB.out)⟩⟩
     ·replace c5:=Bool.eq_false_iff.mpr c5
      subst c5
      have H1:(some false) = some r:=by rw [if_neg (show ¬ (false = true) by decide)] at H;exact H
      clear H
      have H:=H1
      clear H1
      obtain rfl:=Option.some.inj H
      have p452:0 ≤ (x3_1:Int):=of_decide_eq_true (by first | (with_reducible assumption) | assumption)
      have q452:x3_1 < (l0.length:Int):=of_decide_eq_true (by first | (with_reducible assumption) | assumption)
      obtain ⟨ad452,A452_2,c452_2,e452,hx452_0,hx452_1,hx452_2,hl452_2,hi452_2⟩:=at_T25 HR0.out x3_1 p452 q452
      cases e452
      replace hx452_0:=(HB.out.cell (World.block_lt_of_cell? w _ hx452_0)).trans hx452_0
      replace hx452_1:=(HB.out.cell (World.block_lt_of_cell? w _ hx452_1)).trans hx452_1
      replace hx452_2:=(HB.out.cell (World.block_lt_of_cell? w _ hx452_2)).trans hx452_2
      have HR452_2:=Aside0.mk hi452_2
      have HC452_2:=Aside0.mk hl452_2
      clear hi452_2 hl452_2
      replace p452:=eq_true p452
      replace q452:=eq_true q452
      go_wp2_with (first | ((with_reducible refine gate_callee (f:=15) rfl ?_);refine goesL_ (some 14) rfl rfl Tryd.func15 (by kernel_rfl) rfl #[.agg #[.int .i64 ((rd_T25 l0 x3_1).f0),.int .i64 ((rd_T25 l0 x3_1).f1),.slice A452_2 ((rd_T25 l0 x3_1).f2).length c452_2]] rfl (by (try simp only [List.map_toArray,List.map_cons,List.map_nil]);first | done | rfl | (simp only [List.length_drop,List.length_take];rfl)) ?_;(with_reducible refine (spec_SealOk.calls k1 ((rd_T25 l0 x3_1).f0) ((rd_T25 l0 x3_1).f1) _ _ ((rd_T25 l0 x3_1).f2) false _ ?side1 ?side2 A4.out).mono ?_);(case side1=>repeat (first | exact (Kd.C_below HR452_2.out HB.out) | (with_reducible refine Kd.C_alloc ?_ _) | (with_reducible refine Kd.C_drewN ?_ _) | (with_reducible refine Kd.C_drew ?_)));(case side2=>exact HC452_2.out);rintro e w7 ⟨rfl,hb⟩;refine ⟨_,rfl,?_⟩;have n0_:=Aside0.mk (below_step (by repeat (first | (with_reducible first | exact HB.out | apply below_alloc | apply pw_below_drewN | apply below_drew1) | exact HB.out)) hb);clear HB;have HB:=n0_;clear n0_;(try clear hb);(try clear hb2);(try clear hk);(try clear hi)))
      go_ret
      exact ⟨by first | rfl | (simp [errW_none,errW_some] <;> rfl) | (simp [*,errW_none,errW_some] <;> rfl),by repeat (first | (with_reducible first | exact HB.out | apply below_alloc | apply pw_below_drewN | apply below_drew1) | exact HB.out)⟩
    ·rw [if_neg c3] at H
     exact absurd H (by simp)
   ·rw [if_neg c2] at H
    have c2b0:decide (x3_1 < (l0.length:Int)) = false:=decide_eq_false c2
    clear c2
    obtain rfl:=Option.some.inj H
    go_wp2
    go_ret
    exact ⟨by first | rfl | (simp [errW_none,errW_some] <;> rfl) | (simp [*,errW_none,errW_some] <;> rfl),by repeat (first | (with_reducible first | exact HB.out | apply below_alloc | apply pw_below_drewN | apply below_drew1) | exact HB.out)⟩
def spec_l20Has.l0:Nat → List (S25) → Int → Int → Int → List (S25) → Option (Bool)
 | 0,_,_,_,_,_=>none
 | k + 1,x0,x5,x455000,x455001,x455002=>if x5 < (x0.length:Int) then (if 0 ≤ x5 then ((spec_l20Text.f k ((rd_T25 x0 x5).f0) ((rd_T25 x0 x5).f1) ((rd_T25 x0 x5).f2)).bind fun t456=>((spec_l20Text.f k x455000 x455001 x455002).bind fun t457=>(if t456.toList = t457.toList then (some true) else (spec_l20Has.l0 k x0 (wrap64 (x5 + 1)) x455000 x455001 x455002)))) else (none)) else (some false)
def spec_l20Has.f (k:Nat) (l0:List (S25)) (a1_0:Int) (a1_1:Int) (l1_2:List (S25)):Option (Bool):=spec_l20Has.l0 k l0 0 a1_0 a1_1 l1_2
theorem spec_l20Has.mono_l:∀ k,(∀ y0 y1 y2 y3 y4,LeO (spec_l20Has.l0 k y0 y1 y2 y3 y4) (spec_l20Has.l0 (k + 1) y0 y1 y2 y3 y4))
 | 0=>fun _ _ _ _ _ r h=>by simp [spec_l20Has.l0] at h
 | k + 1=>by
  have ih0:=spec_l20Has.mono_l k
  ·intro y0 y1 y2 y3 y4
   unfold spec_l20Has.l0
   repeat' first
   | (with_reducible exact ih0 _ _ _ _ _)
   | (with_reducible exact spec_l20Text.mono _ _ _ _)
   | (with_reducible exact LeO.refl _)
   | (with_reducible exact LeO.none _)
   | (with_reducible refine LeO.ite ?_ ?_)
   | (with_reducible refine LeO.bind ?_ (fun _=>?_))
   | exact ih0 _ _ _ _ _
   | exact spec_l20Text.mono _ _ _ _
   | exact LeO.none _
   | refine LeO.ite ?_ ?_
   | refine LeO.bind ?_ (fun _=>?_)
theorem spec_l20Has.mono:∀ a0 a1 a2 a3 k,LeO (spec_l20Has.f k a0 a1 a2 a3) (spec_l20Has.f (k + 1) a0 a1 a2 a3):=by
 intro a0 a1 a2 a3 k
 have ih0:=spec_l20Has.mono_l k
 unfold spec_l20Has.f
 repeat' first
   | (with_reducible exact ih0 _ _ _ _ _)
   | (with_reducible exact spec_l20Text.mono _ _ _ _)
   | (with_reducible exact LeO.refl _)
   | (with_reducible exact LeO.none _)
   | (with_reducible refine LeO.ite ?_ ?_)
   | (with_reducible refine LeO.bind ?_ (fun _=>?_))
   | exact ih0 _ _ _ _ _
   | exact spec_l20Text.mono _ _ _ _
   | exact LeO.none _
   | refine LeO.ite ?_ ?_
   | refine LeO.bind ?_ (fun _=>?_)
def spec_l20Has.T4:Bool × List (List Nat × List Nat):=(true,[([],[]),([],[]),([0,1],[0,1]),([2],[2]),([3],[3]),([],[]),([5,4],[5]),([4,6],[4,6])])
def spec_l20Has.B4:List Nat:=[0,0,3,7,15,0,63,127]
theorem spec_l20Has.tab4:rtab .any (opsOf Tryd.f63 4) = spec_l20Has.T4:=by kernel_rfl
theorem spec_l20Has.bits4:waitsOk spec_l20Has.T4.2 spec_l20Has.B4 = true:=by kernel_rfl
set_option maxHeartbeats 8000000 in
set_option maxRecDepth 100000 in
theorem spec_l20Has.calls (k:Nat) (A0:Option Addr) (c0:Nat) (l0:List (S25)) (a1_0:Int) (a1_1:Int) (A1_2:Option Addr) (c1_2:Nat) (l1_2:List (S25)) (r:Bool) (w:World) (hr0:Kd.C k25 w A0 l0.length l0) (hc0:l0.length ≤ c0) (hr1_2:Kd.C k25 w A1_2 l1_2.length l1_2) (hc1_2:l1_2.length ≤ c1_2) (h:spec_l20Has.f k l0 a1_0 a1_1 l1_2 = some r) :
  Calls Tryd.prog 63 #[.slice A0 l0.length c0,.agg #[.int .i64 a1_0,.int .i64 a1_1,.slice A1_2 l1_2.length c1_2]] w fun e w'=>e = .returned (.bool r)∧Below w.heap.size w w':=by
 have hu25:=Tryd.underlying25
 have HR0:=Aside0.mk hr0
 have HC0:=Aside0.mk hc0
 clear hr0 hc0
 have HR1_2:=Aside0.mk hr1_2
 have HC1_2:=Aside0.mk hc1_2
 clear hr1_2 hc1_2
 have HB:=Aside0.mk (Below.refl w.heap.size w)
 have H:(spec_l20Has.l0 k l0 0 a1_0 a1_1 l1_2) = some r:=h
 clear h
 have H':=Aside0.mk H
 clear H
 go_enter Tryd.func63,Tryd.ntmps63
 go_wp2_with (first | ((with_reducible refine gate_dst (N:=3) rfl ?_);refine box_event ?hg (N:=3) ?hd (cs:=#[.int .i64 a1_0,.int .i64 a1_1,.slice A1_2 l1_2.length c1_2]) (t:=25) ?hr ?_;(case hd=>rfl);(case hg=>rfl);(case hr=>first | (go_simp;done) | (go_simp;rfl));intro gb454 hg w3 hbox hb;have n0_:=Aside0.mk (below_step (by repeat (first | (with_reducible first | exact HB.out | apply below_alloc | apply pw_below_drewN | apply below_drew1) | exact HB.out)) hb);have n1_:=Aside0.mk (hbox);have n2_:=Aside0.mk ((by rw [hg];exact (below_size (by repeat (first | (with_reducible first | exact HB.out | apply below_alloc | apply pw_below_drewN | apply below_drew1) | exact HB.out))):w.heap.size ≤ gb454));have n3_:=Aside0.mk ((by rw [hg];exact (below_size (by repeat (first | (with_reducible first | exact HB.out | apply below_alloc | apply pw_below_drewN | apply below_drew1) | exact HB.out))):w.heap.size ≤ gb454));clear HB;have HB:=n0_;have BK454:=n1_;have GW454:=n2_;have GE454:=n3_;clear n0_ n1_ n2_ n3_;clear hb hbox hg))
 go_loopg [5] k (fun kq v5 w'=>∃ (x5_1:Int),v5 = .int .i64 x5_1∧Aside0 (spec_l20Has.l0 kq l0 x5_1 a1_0 a1_1 l1_2 = some r)∧Aside0 (kq ≤ k)∧Aside0 (w'.heap[gb454]? = some (.cells #[.int .i64 a1_0,.int .i64 a1_1,(.slice A1_2 l1_2.length c1_2)] 25 (0,0)))∧Aside0 (Below w.heap.size w w'))
 case atStart=>exact ⟨(0),(by first | rfl | (simp;done) | (simp [*];done)),H',⟨Nat.le_refl _⟩,⟨by (with_reducible repeat (first | refine blk_drewN ?_ _ | refine blk_drew ?_ | refine blk_alloc ?_ _));exact BK454.out⟩,⟨by repeat (first | (with_reducible first | exact HB.out | apply below_alloc | apply pw_below_drewN | apply below_drew1 | refine below_set ?_ GE454.out) | exact HB.out)⟩⟩
 case round =>
  clear H'
  try clear c1
  try clear p2
  obtain ⟨x5_1,rfl,HA,HK1,BK454,HB⟩:=hrel
  cases gk with
  | zero=>exact absurd HA.out (by simp [spec_l20Has.l0])
  | succ k1 =>
   have H:=HA.out
   clear HA
   simp only [spec_l20Has.l0] at H
   by_cases c4:x5_1 < (l0.length:Int)
   ·rw [if_pos c4] at H
    have c4b0:decide (x5_1 < (l0.length:Int)) = true:=decide_eq_true c4
    clear c4
    by_cases c5:0 ≤ x5_1
    ·rw [if_pos c5] at H
     have c5b0:decide (0 ≤ x5_1) = true:=decide_eq_true c5
     clear c5
     replace H:=Option.bind_eq_some_iff.mp H
     obtain ⟨t456,A60,H⟩:=H
     replace H:((spec_l20Text.f k1 a1_0 a1_1 l1_2).bind fun t457=>(if t456.toList = t457.toList then (some true) else (spec_l20Has.l0 k1 l0 (wrap64 (x5_1 + 1)) a1_0 a1_1 l1_2))) = some r:=H
     have A6:=Aside0.mk A60
     clear A60
     replace H:=Option.bind_eq_some_iff.mp H
     obtain ⟨t457,A70,H⟩:=H
     replace H:(if t456.toList = t457.toList then (some true) else (spec_l20Has.l0 k1 l0 (wrap64 (x5_1 + 1)) a1_0 a1_1 l1_2)) = some r:=H
     have A7:=Aside0.mk A70
     clear A70
     by_cases c8:t456.toList = t457.toList
     ·rw [if_pos c8] at H
      have c8b0:(t456.toList == t457.toList) = true:=beq_iff_eq.mpr c8
      have c8b1:(t456.toList != t457.toList) = false:=bne_eq_false_iff_eq.mpr c8
      clear c8
      obtain rfl:=Option.some.inj H
      try go_wp2
      have n0_:=Aside0.mk (blk_drew BK454.out)
      have n1_:=Aside0.mk (below_drew1 HB.out)
      clear BK454
      clear HB
      have BK454:=n0_
      have HB:=n1_
      clear n0_ n1_
      have p455:0 ≤ (x5_1:Int):=of_decide_eq_true (by first | (with_reducible assumption) | assumption)
      have q455:x5_1 < (l0.length:Int):=of_decide_eq_true (by first | (with_reducible assumption) | assumption)
      obtain ⟨ad455,A455_2,c455_2,e455,hx455_0,hx455_1,hx455_2,hl455_2,hi455_2⟩:=at_T25 HR0.out x5_1 p455 q455
      have hw455_2:=hx455_2
      have hw455_1:=hx455_1
      have hw455_0:=hx455_0
      cases e455
      replace hx455_0:=(HB.out.cell (World.block_lt_of_cell? w _ hx455_0)).trans hx455_0
      replace hx455_1:=(HB.out.cell (World.block_lt_of_cell? w _ hx455_1)).trans hx455_1
      replace hx455_2:=(HB.out.cell (World.block_lt_of_cell? w _ hx455_2)).trans hx455_2
      have HR455_2:=Aside0.mk hi455_2
      have HC455_2:=Aside0.mk hl455_2
      clear hi455_2 hl455_2
      replace p455:=eq_true p455
      replace q455:=eq_true q455
      refine start_ (n:=8) (S:=fun w'=>w'.cell? ⟨gb454,0,none⟩ = some (.int .i64 a1_0)∧w'.cell? ⟨gb454,1,none⟩ = some (.int .i64 a1_1)∧w'.cell? ⟨gb454,2,none⟩ = some (.slice A1_2 l1_2.length c1_2)∧w'.cell? (ad455.add ((x5_1).toNat * 3)) = some (.int .i64 ((rd_T25 l0 x5_1).f0))∧w'.cell? ⟨(ad455.add ((x5_1).toNat * 3)).block,(ad455.add ((x5_1).toNat * 3)).off + 1,none⟩ = some (.int .i64 ((rd_T25 l0 x5_1).f1))∧w'.cell? ⟨(ad455.add ((x5_1).toNat * 3)).block,(ad455.add ((x5_1).toNat * 3)).off + 2,none⟩ = some (.slice A455_2 ((rd_T25 l0 x5_1).f2).length c455_2)) (ds:=[]) #[false,false,false,false,false,false,false,false] (by kernel_rfl) rfl rfl ⟨(blk_cell BK454.out 0).trans rfl,(blk_cell BK454.out 1).trans rfl,(blk_cell BK454.out 2).trans rfl,((HB.out.cell (World.block_lt_of_cell? w _ hw455_0)).trans hw455_0),((HB.out.cell (World.block_lt_of_cell? w _ hw455_1)).trans hw455_1),((HB.out.cell (World.block_lt_of_cell? w _ hw455_2)).trans hw455_2)⟩ (fun hHeld=>?_);refine with_tabW spec_l20Has.tab4 spec_l20Has.bits4 (fun HT_ HW_=>?_)
      generalize wr.drew = w9 at BK454 HB HR455_2 hx455_0 hx455_1 hx455_2 hHeld ⊢
      refine pure_ (i:=0) (N:=some 12) (v:=?_) (a':=?_) #[true,false,false,false,false,false,false,false] rfl rfl (any_of HT_.out (by kernel_rfl)) (fun _ _ _ h=>h) (Or.inl ⟨by rfl,?_⟩) ?_ ?_
      rotate_left;·intro w';go_simp;with_reducible rfl
      rotate_left;·simp only [Act.put,List.setIfInBounds_toArray,List.set_cons_zero,List.set_cons_succ,i64_w,i32_w];rfl
      refine pure_ (i:=1) (N:=some 13) (v:=?_) (a':=?_) #[true,true,false,false,false,false,false,false] rfl rfl (any_of HT_.out (by kernel_rfl)) (fun _ _ _ h=>h) (Or.inl ⟨by rfl,?_⟩) ?_ ?_
      rotate_left;·intro w';go_simp;with_reducible rfl
      rotate_left;·simp only [Act.put,List.setIfInBounds_toArray,List.set_cons_zero,List.set_cons_succ,i64_w,i32_w];rfl
      refine pure_ (i:=2) (N:=some 14) (v:=?_) (a':=?_) #[true,true,true,false,false,false,false,false] rfl rfl (any_of HT_.out (by kernel_rfl)) (fun _ _ _ h=>h) (Or.inl ⟨by rfl,?_⟩) ?_ ?_
      rotate_left;·intro w';go_simp;with_reducible rfl
      rotate_left;·simp only [Act.put,List.setIfInBounds_toArray,List.set_cons_zero,List.set_cons_succ,i64_w,i32_w];rfl
      refine take_ (i:=3) (N:=some 15) (v:=?_) (a':=?_) #[true,true,true,true,false,false,false,false] rfl rfl (take_ofW HT_.out HW_.out (by kernel_rfl)) (fun _ _ _ h=>h) (Or.inl ⟨by rfl,?_⟩) hHeld ?_ ?_
      rotate_left;·rintro w' ⟨s0,s1,s2,s3,s4,s5⟩;go_simp;with_reducible rfl
      rotate_left;·simp only [Act.put,List.setIfInBounds_toArray,List.set_cons_zero,List.set_cons_succ,i64_w,i32_w];rfl
      refine take_ (i:=5) (N:=some 17) (v:=?_) (a':=?_) #[true,true,true,true,false,true,false,false] rfl rfl (take_ofW HT_.out HW_.out (by kernel_rfl)) (fun _ _ _ h=>h) (Or.inl ⟨by rfl,?_⟩) hHeld ?_ ?_
      rotate_left;·rintro w' ⟨s0,s1,s2,s3,s4,s5⟩;go_simp;with_reducible rfl
      rotate_left;·simp only [Act.put,List.setIfInBounds_toArray,List.set_cons_zero,List.set_cons_succ,i64_w,i32_w];rfl
      refine one_ (i:=4) (N:=some 16) #[true,true,true,true,true,true,false,false] rfl rfl (one_of HT_.out (by kernel_rfl)) (by decide) (fun K hK=>?_)
      refine goes_ Tryd.func48 (by kernel_rfl) rfl #[.agg #[.int .i64 ((rd_T25 l0 x5_1).f0),.int .i64 ((rd_T25 l0 x5_1).f1),.slice A455_2 ((rd_T25 l0 x5_1).f2).length c455_2]] (by rfl) rfl rfl (by (try simp only [List.map_toArray,List.map_cons,List.map_nil]);first | done | rfl | (simp only [List.length_drop,List.length_take];rfl)) ?_
      with_reducible refine (spec_l20Text.calls k1 ((rd_T25 l0 x5_1).f0) ((rd_T25 l0 x5_1).f1) _ _ ((rd_T25 l0 x5_1).f2) t456 _ ?side1 ?side2 A6.out).mono ?_
      (case side1=>repeat (first | exact (Kd.C_below HR455_2.out HB.out) | (with_reducible refine Kd.C_alloc ?_ _) | (with_reducible refine Kd.C_drewN ?_ _) | (with_reducible refine Kd.C_drew ?_)))
      (case side2=>exact HC455_2.out)
      rintro e w10 ⟨rfl,hb⟩
      refine ⟨_,rfl,?_⟩
      have n0_:=Aside0.mk (blk_below (g:=gb454) (o:=.cells #[.int .i64 a1_0,.int .i64 a1_1,.slice A1_2 l1_2.length c1_2] 25 (0,0)) (by (with_reducible repeat (first | refine blk_drewN ?_ _ | refine blk_drew ?_ | refine blk_alloc ?_ _));exact BK454.out) hb)
      have n1_:=Aside0.mk (below_step (by repeat (first | (with_reducible first | exact HB.out | apply below_alloc | apply pw_below_drewN | apply below_drew1 | refine below_set ?_ GE454.out) | exact HB.out)) hb)
      clear BK454
      clear HB
      have BK454:=n0_
      have HB:=n1_
      clear n0_ n1_
      (try clear hb)
      (try clear hb2)
      (try clear hk)
      (try clear hi)
      refine hK.out _ _ ⟨(blk_cell BK454.out 0).trans rfl,(blk_cell BK454.out 1).trans rfl,(blk_cell BK454.out 2).trans rfl,((HB.out.cell (World.block_lt_of_cell? w _ hw455_0)).trans hw455_0),((HB.out.cell (World.block_lt_of_cell? w _ hw455_1)).trans hw455_1),((HB.out.cell (World.block_lt_of_cell? w _ hw455_2)).trans hw455_2)⟩ (fun hHeld=>?_)
      clear hK K
      refine norm_ (a':=?_) ?_ ?_
      rotate_left
      ·show Act.put _ (some 16) _ = _
       simp only [Act.put,List.setIfInBounds_toArray,List.set_cons_zero,List.set_cons_succ,i64_w,i32_w]
       rfl
      refine one_ (i:=6) (N:=some 18) #[true,true,true,true,true,true,true,false] rfl rfl (one_of HT_.out (by kernel_rfl)) (by decide) (fun K hK=>?_)
      refine goes_ Tryd.func48 (by kernel_rfl) rfl #[.agg #[.int .i64 a1_0,.int .i64 a1_1,.slice A1_2 l1_2.length c1_2]] (by rfl) rfl rfl (by (try simp only [List.map_toArray,List.map_cons,List.map_nil]);first | done | rfl | (simp only [List.length_drop,List.length_take];rfl)) ?_
      with_reducible refine (spec_l20Text.calls k1 a1_0 a1_1 _ _ l1_2 t457 _ ?side1 ?side2 A7.out).mono ?_
      (case side1=>repeat (first | exact (Kd.C_below HR1_2.out HB.out) | (with_reducible refine Kd.C_alloc ?_ _) | (with_reducible refine Kd.C_drewN ?_ _) | (with_reducible refine Kd.C_drew ?_)))
      (case side2=>exact HC1_2.out)
      rintro e w11 ⟨rfl,hb⟩
      refine ⟨_,rfl,?_⟩
      have n0_:=Aside0.mk (blk_below (g:=gb454) (o:=.cells #[.int .i64 a1_0,.int .i64 a1_1,.slice A1_2 l1_2.length c1_2] 25 (0,0)) (by (with_reducible repeat (first | refine blk_drewN ?_ _ | refine blk_drew ?_ | refine blk_alloc ?_ _));exact BK454.out) hb)
      have n1_:=Aside0.mk (below_step (by repeat (first | (with_reducible first | exact HB.out | apply below_alloc | apply pw_below_drewN | apply below_drew1 | refine below_set ?_ GE454.out) | exact HB.out)) hb)
      clear BK454
      clear HB
      have BK454:=n0_
      have HB:=n1_
      clear n0_ n1_
      (try clear hb)
      (try clear hb2)
      (try clear hk)
      (try clear hi)
      refine hK.out _ _ ⟨(blk_cell BK454.out 0).trans rfl,(blk_cell BK454.out 1).trans rfl,(blk_cell BK454.out 2).trans rfl,((HB.out.cell (World.block_lt_of_cell? w _ hw455_0)).trans hw455_0),((HB.out.cell (World.block_lt_of_cell? w _ hw455_1)).trans hw455_1),((HB.out.cell (World.block_lt_of_cell? w _ hw455_2)).trans hw455_2)⟩ (fun hHeld=>?_)
      clear hK K
      refine norm_ (a':=?_) ?_ ?_
      rotate_left
      ·show Act.put _ (some 18) _ = _
       simp only [Act.put,List.setIfInBounds_toArray,List.set_cons_zero,List.set_cons_succ,i64_w,i32_w]
       rfl
      refine pure_ (i:=7) (N:=some 19) (v:=?_) (a':=?_) #[true,true,true,true,true,true,true,true] rfl rfl (any_of HT_.out (by kernel_rfl)) (fun _ _ _ h=>h) (Or.inl ⟨by rfl,?_⟩) ?_ ?_
      rotate_left;·intro w';go_simp;with_reducible rfl
      rotate_left;·simp only [Act.put,List.setIfInBounds_toArray,List.set_cons_zero,List.set_cons_succ,i64_w,i32_w];rfl
      refine done_ (done_of HT_.out (by kernel_rfl)) ?_
      try go_wp2
      go_ret
      exact ⟨by first | rfl | (simp [errW_none,errW_some] <;> rfl) | (simp [*,errW_none,errW_some] <;> rfl),by repeat (first | (with_reducible first | exact HB.out | apply below_alloc | apply pw_below_drewN | apply below_drew1 | refine below_set ?_ GE454.out) | exact HB.out)⟩
     ·rw [if_neg c8] at H
      have c8b0:(t456.toList == t457.toList) = false:=beq_eq_false_iff_ne.mpr c8
      have c8b1:(t456.toList != t457.toList) = true:=bne_iff_ne.mpr c8
      have H':=Aside0.mk H
      clear H
      try go_wp2
      have n0_:=Aside0.mk (blk_drew BK454.out)
      have n1_:=Aside0.mk (below_drew1 HB.out)
      clear BK454
      clear HB
      have BK454:=n0_
      have HB:=n1_
      clear n0_ n1_
      have p455:0 ≤ (x5_1:Int):=of_decide_eq_true (by first | (with_reducible assumption) | assumption)
      have q455:x5_1 < (l0.length:Int):=of_decide_eq_true (by first | (with_reducible assumption) | assumption)
      obtain ⟨ad455,A455_2,c455_2,e455,hx455_0,hx455_1,hx455_2,hl455_2,hi455_2⟩:=at_T25 HR0.out x5_1 p455 q455
      have hw455_2:=hx455_2
      have hw455_1:=hx455_1
      have hw455_0:=hx455_0
      cases e455
      replace hx455_0:=(HB.out.cell (World.block_lt_of_cell? w _ hx455_0)).trans hx455_0
      replace hx455_1:=(HB.out.cell (World.block_lt_of_cell? w _ hx455_1)).trans hx455_1
      replace hx455_2:=(HB.out.cell (World.block_lt_of_cell? w _ hx455_2)).trans hx455_2
      have HR455_2:=Aside0.mk hi455_2
      have HC455_2:=Aside0.mk hl455_2
      clear hi455_2 hl455_2
      replace p455:=eq_true p455
      replace q455:=eq_true q455
      refine start_ (n:=8) (S:=fun w'=>w'.cell? ⟨gb454,0,none⟩ = some (.int .i64 a1_0)∧w'.cell? ⟨gb454,1,none⟩ = some (.int .i64 a1_1)∧w'.cell? ⟨gb454,2,none⟩ = some (.slice A1_2 l1_2.length c1_2)∧w'.cell? (ad455.add ((x5_1).toNat * 3)) = some (.int .i64 ((rd_T25 l0 x5_1).f0))∧w'.cell? ⟨(ad455.add ((x5_1).toNat * 3)).block,(ad455.add ((x5_1).toNat * 3)).off + 1,none⟩ = some (.int .i64 ((rd_T25 l0 x5_1).f1))∧w'.cell? ⟨(ad455.add ((x5_1).toNat * 3)).block,(ad455.add ((x5_1).toNat * 3)).off + 2,none⟩ = some (.slice A455_2 ((rd_T25 l0 x5_1).f2).length c455_2)) (ds:=[]) #[false,false,false,false,false,false,false,false] (by kernel_rfl) rfl rfl ⟨(blk_cell BK454.out 0).trans rfl,(blk_cell BK454.out 1).trans rfl,(blk_cell BK454.out 2).trans rfl,((HB.out.cell (World.block_lt_of_cell? w _ hw455_0)).trans hw455_0),((HB.out.cell (World.block_lt_of_cell? w _ hw455_1)).trans hw455_1),((HB.out.cell (World.block_lt_of_cell? w _ hw455_2)).trans hw455_2)⟩ (fun hHeld=>?_);refine with_tabW spec_l20Has.tab4 spec_l20Has.bits4 (fun HT_ HW_=>?_)
      generalize wr.drew = w12 at BK454 HB HR455_2 hx455_0 hx455_1 hx455_2 hHeld ⊢
      refine pure_ (i:=0) (N:=some 12) (v:=?_) (a':=?_) #[true,false,false,false,false,false,false,false] rfl rfl (any_of HT_.out (by kernel_rfl)) (fun _ _ _ h=>h) (Or.inl ⟨by rfl,?_⟩) ?_ ?_
      rotate_left;·intro w';go_simp;with_reducible rfl
      rotate_left;·simp only [Act.put,List.setIfInBounds_toArray,List.set_cons_zero,List.set_cons_succ,i64_w,i32_w];rfl
      refine pure_ (i:=1) (N:=some 13) (v:=?_) (a':=?_) #[true,true,false,false,false,false,false,false] rfl rfl (any_of HT_.out (by kernel_rfl)) (fun _ _ _ h=>h) (Or.inl ⟨by rfl,?_⟩) ?_ ?_
      rotate_left;·intro w';go_simp;with_reducible rfl
      rotate_left;·simp only [Act.put,List.setIfInBounds_toArray,List.set_cons_zero,List.set_cons_succ,i64_w,i32_w];rfl
      refine pure_ (i:=2) (N:=some 14) (v:=?_) (a':=?_) #[true,true,true,false,false,false,false,false] rfl rfl (any_of HT_.out (by kernel_rfl)) (fun _ _ _ h=>h) (Or.inl ⟨by rfl,?_⟩) ?_ ?_
      rotate_left;·intro w';go_simp;with_reducible rfl
      rotate_left;·simp only [Act.put,List.setIfInBounds_toArray,List.set_cons_zero,List.set_cons_succ,i64_w,i32_w];rfl
      refine take_ (i:=3) (N:=some 15) (v:=?_) (a':=?_) #[true,true,true,true,false,false,false,false] rfl rfl (take_ofW HT_.out HW_.out (by kernel_rfl)) (fun _ _ _ h=>h) (Or.inl ⟨by rfl,?_⟩) hHeld ?_ ?_
      rotate_left;·rintro w' ⟨s0,s1,s2,s3,s4,s5⟩;go_simp;with_reducible rfl
      rotate_left;·simp only [Act.put,List.setIfInBounds_toArray,List.set_cons_zero,List.set_cons_succ,i64_w,i32_w];rfl
      refine take_ (i:=5) (N:=some 17) (v:=?_) (a':=?_) #[true,true,true,true,false,true,false,false] rfl rfl (take_ofW HT_.out HW_.out (by kernel_rfl)) (fun _ _ _ h=>h) (Or.inl ⟨by rfl,?_⟩) hHeld ?_ ?_
      rotate_left;·rintro w' ⟨s0,s1,s2,s3,s4,s5⟩;go_simp;with_reducible rfl
      rotate_left;·simp only [Act.put,List.setIfInBounds_toArray,List.set_cons_zero,List.set_cons_succ,i64_w,i32_w];rfl
      refine one_ (i:=4) (N:=some 16) #[true,true,true,true,true,true,false,false] rfl rfl (one_of HT_.out (by kernel_rfl)) (by decide) (fun K hK=>?_)
      refine goes_ Tryd.func48 (by kernel_rfl) rfl #[.agg #[.int .i64 ((rd_T25 l0 x5_1).f0),.int .i64 ((rd_T25 l0 x5_1).f1),.slice A455_2 ((rd_T25 l0 x5_1).f2).length c455_2]] (by rfl) rfl rfl (by (try simp only [List.map_toArray,List.map_cons,List.map_nil]);first | done | rfl | (simp only [List.length_drop,List.length_take];rfl)) ?_
      with_reducible refine (spec_l20Text.calls k1 ((rd_T25 l0 x5_1).f0) ((rd_T25 l0 x5_1).f1) _ _ ((rd_T25 l0 x5_1).f2) t456 _ ?side1 ?side2 A6.out).mono ?_
      (case side1=>repeat (first | exact (Kd.C_below HR455_2.out HB.out) | (with_reducible refine Kd.C_alloc ?_ _) | (with_reducible refine Kd.C_drewN ?_ _) | (with_reducible refine Kd.C_drew ?_)))
      (case side2=>exact HC455_2.out)
      rintro e w13 ⟨rfl,hb⟩
      refine ⟨_,rfl,?_⟩
      have n0_:=Aside0.mk (blk_below (g:=gb454) (o:=.cells #[.int .i64 a1_0,.int .i64 a1_1,.slice A1_2 l1_2.length c1_2] 25 (0,0)) (by (with_reducible repeat (first | refine blk_drewN ?_ _ | refine blk_drew ?_ | refine blk_alloc ?_ _));exact BK454.out) hb)
      have n1_:=Aside0.mk (below_step (by repeat (first | (with_reducible first | exact HB.out | apply below_alloc | apply pw_below_drewN | apply below_drew1 | refine below_set ?_ GE454.out) | exact HB.out)) hb)
      clear BK454
      clear HB
      have BK454:=n0_
      have HB:=n1_
      clear n0_ n1_
      (try clear hb)
      (try clear hb2)
      (try clear hk)
      (try clear hi)
      refine hK.out _ _ ⟨(blk_cell BK454.out 0).trans rfl,(blk_cell BK454.out 1).trans rfl,(blk_cell BK454.out 2).trans rfl,((HB.out.cell (World.block_lt_of_cell? w _ hw455_0)).trans hw455_0),((HB.out.cell (World.block_lt_of_cell? w _ hw455_1)).trans hw455_1),((HB.out.cell (World.block_lt_of_cell? w _ hw455_2)).trans hw455_2)⟩ (fun hHeld=>?_)
      clear hK K
      refine norm_ (a':=?_) ?_ ?_
      rotate_left
      ·show Act.put _ (some 16) _ = _
       simp only [Act.put,List.setIfInBounds_toArray,List.set_cons_zero,List.set_cons_succ,i64_w,i32_w]
       rfl
      refine one_ (i:=6) (N:=some 18) #[true,true,true,true,true,true,true,false] rfl rfl (one_of HT_.out (by kernel_rfl)) (by decide) (fun K hK=>?_)
      refine goes_ Tryd.func48 (by kernel_rfl) rfl #[.agg #[.int .i64 a1_0,.int .i64 a1_1,.slice A1_2 l1_2.length c1_2]] (by rfl) rfl rfl (by (try simp only [List.map_toArray,List.map_cons,List.map_nil]);first | done | rfl | (simp only [List.length_drop,List.length_take];rfl)) ?_
      with_reducible refine (spec_l20Text.calls k1 a1_0 a1_1 _ _ l1_2 t457 _ ?side1 ?side2 A7.out).mono ?_
      (case side1=>repeat (first | exact (Kd.C_below HR1_2.out HB.out) | (with_reducible refine Kd.C_alloc ?_ _) | (with_reducible refine Kd.C_drewN ?_ _) | (with_reducible refine Kd.C_drew ?_)))
      (case side2=>exact HC1_2.out)
      rintro e w14 ⟨rfl,hb⟩
      refine ⟨_,rfl,?_⟩
      have n0_:=Aside0.mk (blk_below (g:=gb454) (o:=.cells #[.int .i64 a1_0,.int .i64 a1_1,.slice A1_2 l1_2.length c1_2] 25 (0,0)) (by (with_reducible repeat (first | refine blk_drewN ?_ _ | refine blk_drew ?_ | refine blk_alloc ?_ _));exact BK454.out) hb)
      have n1_:=Aside0.mk (below_step (by repeat (first | (with_reducible first | exact HB.out | apply below_alloc | apply pw_below_drewN | apply below_drew1 | refine below_set ?_ GE454.out) | exact HB.out)) hb)
      clear BK454
      clear HB
      have BK454:=n0_
      have HB:=n1_
      clear n0_ n1_
      (try clear hb)
      (try clear hb2)
      (try clear hk)
      (try clear hi)
      refine hK.out _ _ ⟨(blk_cell BK454.out 0).trans rfl,(blk_cell BK454.out 1).trans rfl,(blk_cell BK454.out 2).trans rfl,((HB.out.cell (World.block_lt_of_cell? w _ hw455_0)).trans hw455_0),((HB.out.cell (World.block_lt_of_cell? w _ hw455_1)).trans hw455_1),((HB.out.cell (World.block_lt_of_cell? w _ hw455_2)).trans hw455_2)⟩ (fun hHeld=>?_)
      clear hK K
      refine norm_ (a':=?_) ?_ ?_
      rotate_left
      ·show Act.put _ (some 18) _ = _
       simp only [Act.put,List.setIfInBounds_toArray,List.set_cons_zero,List.set_cons_succ,i64_w,i32_w]
       rfl
      refine pure_ (i:=7) (N:=some 19) (v:=?_) (a':=?_) #[true,true,true,true,true,true,true,true] rfl rfl (any_of HT_.out (by kernel_rfl)) (fun _ _ _ h=>h) (Or.inl ⟨by rfl,?_⟩) ?_ ?_
      rotate_left;·intro w';go_simp;with_reducible rfl
      rotate_left;·simp only [Act.put,List.setIfInBounds_toArray,List.set_cons_zero,List.set_cons_succ,i64_w,i32_w];rfl
      refine done_ (done_of HT_.out (by kernel_rfl)) ?_
      try go_wp2
      go_roundg k1
      case measure=>have:=HK1.out;omega
      case rel=>exact ⟨(wrap64 (x5_1 + 1)),(by first | rfl | (simp;done) | (simp [*];done)),H',⟨by have:=HK1.out;omega⟩,⟨by (with_reducible repeat (first | refine blk_drewN ?_ _ | refine blk_drew ?_ | refine blk_alloc ?_ _));exact BK454.out⟩,⟨by repeat (first | (with_reducible first | exact HB.out | apply below_alloc | apply pw_below_drewN | apply below_drew1 | refine below_set ?_ GE454.out) | exact HB.out)⟩⟩
    ·rw [if_neg c5] at H
     exact absurd H (by simp)
   ·rw [if_neg c4] at H
    have c4b0:decide (x5_1 < (l0.length:Int)) = false:=decide_eq_false c4
    clear c4
    obtain rfl:=Option.some.inj H
    go_wp2
    go_ret
    exact ⟨by first | rfl | (simp [errW_none,errW_some] <;> rfl) | (simp [*,errW_none,errW_some] <;> rfl),by repeat (first | (with_reducible first | exact HB.out | apply below_alloc | apply pw_below_drewN | apply below_drew1 | refine below_set ?_ GE454.out) | exact HB.out)⟩
def laws_mnTexts.l0:Nat → List ByteArray → List ByteArray → Int → Option (Bool)
 | 0,_,_,_=>none
 | k + 1,x0,x1,x5=>if x5 < (x0.length:Int) then (if 0 ≤ x5 then (if x5 < (x1.length:Int) then (if (rdOf ByteArray.empty x0 x5).toList = (rdOf ByteArray.empty x1 x5).toList then (laws_mnTexts.l0 k x0 x1 (wrap64 (x5 + 1))) else (some false)) else (none)) else (none)) else (some true)
def laws_mnTexts.f (k:Nat) (l0:List ByteArray) (l1:List ByteArray):Option (Bool):=if (l0.length:Int) = (l1.length:Int) then (laws_mnTexts.l0 k l0 l1 0) else (some false)
theorem laws_mnTexts.mono_l:∀ k,(∀ y0 y1 y2,LeO (laws_mnTexts.l0 k y0 y1 y2) (laws_mnTexts.l0 (k + 1) y0 y1 y2))
 | 0=>fun _ _ _ r h=>by simp [laws_mnTexts.l0] at h
 | k + 1=>by
  have ih0:=laws_mnTexts.mono_l k
  ·intro y0 y1 y2
   unfold laws_mnTexts.l0
   repeat' first
   | (with_reducible exact ih0 _ _ _)
   | (with_reducible exact LeO.refl _)
   | (with_reducible exact LeO.none _)
   | (with_reducible refine LeO.ite ?_ ?_)
   | (with_reducible refine LeO.bind ?_ (fun _=>?_))
   | exact ih0 _ _ _
   | exact LeO.none _
   | refine LeO.ite ?_ ?_
   | refine LeO.bind ?_ (fun _=>?_)
theorem laws_mnTexts.mono:∀ a0 a1 k,LeO (laws_mnTexts.f k a0 a1) (laws_mnTexts.f (k + 1) a0 a1):=by
 intro a0 a1 k
 have ih0:=laws_mnTexts.mono_l k
 unfold laws_mnTexts.f
 repeat' first
   | (with_reducible exact ih0 _ _ _)
   | (with_reducible exact LeO.refl _)
   | (with_reducible exact LeO.none _)
   | (with_reducible refine LeO.ite ?_ ?_)
   | (with_reducible refine LeO.bind ?_ (fun _=>?_))
   | exact ih0 _ _ _
   | exact LeO.none _
   | refine LeO.ite ?_ ?_
   | refine LeO.bind ?_ (fun _=>?_)
set_option maxHeartbeats 8000000 in
set_option maxRecDepth 100000 in
theorem laws_mnTexts.calls (k:Nat) (A0:Option Addr) (c0:Nat) (l0:List ByteArray) (A1:Option Addr) (c1:Nat) (l1:List ByteArray) (r:Bool) (w:World) (hr0:Kd.C Kd.string w A0 l0.length l0) (hc0:l0.length ≤ c0) (hr1:Kd.C Kd.string w A1 l1.length l1) (hc1:l1.length ≤ c1) (h:laws_mnTexts.f k l0 l1 = some r) :
  Calls Tryd.prog 34 #[.slice A0 l0.length c0,.slice A1 l1.length c1] w fun e w'=>e = .returned (.bool r)∧Drawn0 w w':=by
 have HR0:=Aside0.mk hr0
 have HC0:=Aside0.mk hc0
 clear hr0 hc0
 have HR1:=Aside0.mk hr1
 have HC1:=Aside0.mk hc1
 clear hr1 hc1
 have H:(if (l0.length:Int) = (l1.length:Int) then (laws_mnTexts.l0 k l0 l1 0) else (some false)) = some r:=h
 clear h
 by_cases c3:(l0.length:Int) = (l1.length:Int)
 ·rw [if_pos c3] at H
  have c3b0:((l0.length:Int) == (l1.length:Int)) = true:=beq_iff_eq.mpr c3
  have c3b1:((l0.length:Int) != (l1.length:Int)) = false:=bne_eq_false_iff_eq.mpr c3
  have c3b2:(l0.length == l1.length) = true:=by first | simpa using c3 | (simp at c3 ⊢;omega)
  clear c3
  have H':=Aside0.mk H
  clear H
  go_enter Tryd.func34,Tryd.ntmps34
  go_wp2
  repeat (go_quiet (fail);try go_wp2)
  go_loopg [5] k (fun kq v5 w'=>∃ (x5_1:Int),v5 = .int .i64 x5_1∧Aside0 (laws_mnTexts.l0 kq l0 l1 x5_1 = some r)∧Aside0 (kq ≤ k)∧Drawn0 w w')
  case atStart=>exact ⟨(0),(by first | rfl | (simp;done) | (simp [*];done)),H',⟨Nat.le_refl _⟩,by repeat (first | exact Drawn0.refl _ | apply Drawn0.step)⟩
  case round =>
   clear H'
   try clear c1
   try clear p2
   try clear c3
   try clear c3b0
   try clear c3b1
   try clear c3b2
   obtain ⟨x5_1,rfl,HA,HK1,⟨m1,rfl⟩⟩:=hrel
   cases gk with
   | zero=>exact absurd HA.out (by simp [laws_mnTexts.l0])
   | succ k1 =>
    have H:=HA.out
    clear HA
    simp only [laws_mnTexts.l0] at H
    by_cases c4:x5_1 < (l0.length:Int)
    ·rw [if_pos c4] at H
     have c4b0:decide (x5_1 < (l0.length:Int)) = true:=decide_eq_true c4
     clear c4
     by_cases c5:0 ≤ x5_1
     ·rw [if_pos c5] at H
      have c5b0:decide (0 ≤ x5_1) = true:=decide_eq_true c5
      clear c5
      by_cases c6:x5_1 < (l1.length:Int)
      ·rw [if_pos c6] at H
       have c6b0:decide (x5_1 < (l1.length:Int)) = true:=decide_eq_true c6
       clear c6
       by_cases c7:(rdOf ByteArray.empty l0 x5_1).toList = (rdOf ByteArray.empty l1 x5_1).toList
       ·rw [if_pos c7] at H
        have c7b0:((rdOf ByteArray.empty l0 x5_1).toList == (rdOf ByteArray.empty l1 x5_1).toList) = true:=beq_iff_eq.mpr c7
        have c7b1:((rdOf ByteArray.empty l0 x5_1).toList != (rdOf ByteArray.empty l1 x5_1).toList) = false:=bne_eq_false_iff_eq.mpr c7
        clear c7
        have H':=Aside0.mk H
        clear H
        have p802:0 ≤ (x5_1:Int):=of_decide_eq_true (by first | (with_reducible assumption) | assumption)
        have q802:x5_1 < (l0.length:Int):=of_decide_eq_true (by first | (with_reducible assumption) | assumption)
        obtain ⟨ad802,e802,hx802_0⟩:=Kd.at_string HR0.out x5_1 p802 q802
        cases e802
        replace p802:=eq_true p802
        replace q802:=eq_true q802
        have p803:0 ≤ (x5_1:Int):=of_decide_eq_true (by first | (with_reducible assumption) | assumption)
        have q803:x5_1 < (l1.length:Int):=of_decide_eq_true (by first | (with_reducible assumption) | assumption)
        obtain ⟨ad803,e803,hx803_0⟩:=Kd.at_string HR1.out x5_1 p803 q803
        cases e803
        replace p803:=eq_true p803
        replace q803:=eq_true q803
        go_wp2
        repeat (go_quiet (fail);try go_wp2)
        go_roundg k1
        case measure=>have:=HK1.out;omega
        case rel=>exact ⟨(wrap64 (x5_1 + 1)),(by first | rfl | (simp;done) | (simp [*];done)),H',⟨by have:=HK1.out;omega⟩,by repeat (first | exact Drawn0.refl _ | apply Drawn0.step)⟩
       ·rw [if_neg c7] at H
        have c7b0:((rdOf ByteArray.empty l0 x5_1).toList == (rdOf ByteArray.empty l1 x5_1).toList) = false:=beq_eq_false_iff_ne.mpr c7
        have c7b1:((rdOf ByteArray.empty l0 x5_1).toList != (rdOf ByteArray.empty l1 x5_1).toList) = true:=bne_iff_ne.mpr c7
        obtain rfl:=Option.some.inj H
        have p802:0 ≤ (x5_1:Int):=of_decide_eq_true (by first | (with_reducible assumption) | assumption)
        have q802:x5_1 < (l0.length:Int):=of_decide_eq_true (by first | (with_reducible assumption) | assumption)
        obtain ⟨ad802,e802,hx802_0⟩:=Kd.at_string HR0.out x5_1 p802 q802
        cases e802
        replace p802:=eq_true p802
        replace q802:=eq_true q802
        have p803:0 ≤ (x5_1:Int):=of_decide_eq_true (by first | (with_reducible assumption) | assumption)
        have q803:x5_1 < (l1.length:Int):=of_decide_eq_true (by first | (with_reducible assumption) | assumption)
        obtain ⟨ad803,e803,hx803_0⟩:=Kd.at_string HR1.out x5_1 p803 q803
        cases e803
        replace p803:=eq_true p803
        replace q803:=eq_true q803
        go_wp2
        repeat (go_quiet (fail);try go_wp2)
        go_ret
        exact ⟨by first | rfl | (simp;done) | (simp [*];done),by repeat (first | exact Drawn0.refl _ | apply Drawn0.step)⟩
      ·rw [if_neg c6] at H
       exact absurd H (by simp)
     ·rw [if_neg c5] at H
      exact absurd H (by simp)
    ·rw [if_neg c4] at H
     have c4b0:decide (x5_1 < (l0.length:Int)) = false:=decide_eq_false c4
     clear c4
     obtain rfl:=Option.some.inj H
     go_wp2
     repeat (go_quiet (fail);try go_wp2)
     go_ret
     exact ⟨by first | rfl | (simp;done) | (simp [*];done),by repeat (first | exact Drawn0.refl _ | apply Drawn0.step)⟩
 ·rw [if_neg c3] at H
  have c3b0:((l0.length:Int) == (l1.length:Int)) = false:=beq_eq_false_iff_ne.mpr c3
  have c3b1:((l0.length:Int) != (l1.length:Int)) = true:=bne_iff_ne.mpr c3
  have c3b2:(l0.length == l1.length) = false:=by first | simpa using c3 | (simp at c3 ⊢;omega)
  obtain rfl:=Option.some.inj H
  go_enter Tryd.func34,Tryd.ntmps34
  go_wp2
  repeat (go_quiet (fail);try go_wp2)
  go_ret
  exact ⟨by first | rfl | (simp;done) | (simp [*];done),by repeat (first | exact Drawn0.refl _ | apply Drawn0.step)⟩
end Go.Proofs.YtbcjpdahdecehaaDoor.P
