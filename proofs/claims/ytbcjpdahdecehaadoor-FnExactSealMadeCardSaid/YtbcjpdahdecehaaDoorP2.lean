/- What the Go functions that the laws reach compute, and that their calls come to just that: told by a program of this session (aprint.py). No condition. -/
import Derived.Test.YtbcjpdahdecehaaDoorP0
import Derived.Test.YtbcjpdahdecehaaDoorP1
namespace Go.Proofs.YtbcjpdahdecehaaDoor.P
open Go.RowKit Go.Proofs.YtbcjpdahdecehaaDoorW.PrintWords Go.Proofs.YtbcjpdahdecehaaDoorW.PrintLast Go.Proofs.YtbcjpdahdecehaaDoorW.PrintMore
attribute [local go_sem] max2_int min2_int max_two min_two max_three min_three max_four min_four
set_option linter.unusedVariables false
set_option linter.unusedSimpArgs false
mutual
def spec_l20Apart.l0:Nat → List (S25) → List (S25) → Int → Option ((List (S25)))
 | 0,_,_,_=>none
 | k + 1,x0,x3,x4=>if x4 < (x0.length:Int) then (if 0 ≤ x4 then ((spec_l20Has.f k x3 ((rd_T25 x0 x4).f0) ((rd_T25 x0 x4).f1) ((rd_T25 x0 x4).f2)).bind fun t468=>(if t468 = true then (spec_l20Apart.l0 k x0 x3 (wrap64 (x4 + 1))) else (if x3.length < 3518437208883 then (spec_l20Apart.l0 k x0 (x3 ++ [(⟨(rd_T25 x0 x4).f0,(rd_T25 x0 x4).f1,(rd_T25 x0 x4).f2⟩:S25)]) (wrap64 (x4 + 1))) else (none)))) else (none)) else (spec_l20Apart.l1 k x3 true)
def spec_l20Apart.l1:Nat → List (S25) → Bool → Option ((List (S25)))
 | 0,_,_=>none
 | k + 1,x3,x5=>if x5 = true then (spec_l20Apart.l2 k x3 false 0) else (some x3)
def spec_l20Apart.l2:Nat → List (S25) → Bool → Int → Option ((List (S25)))
 | 0,_,_,_=>none
 | k + 1,x3,x5,x6=>if x6 < (x3.length:Int) then (if 0 ≤ x6 then (if ((rd_T25 x3 x6).f0) = 1 then (spec_l20Apart.j3 k x3 x5 x6 ((rd_T25 x3 x6).f2) ((rd_T25 x3 x6).f0) ((rd_T25 x3 x6).f1) ((rd_T25 x3 x6).f2)) else (spec_l20Apart.j3 k x3 x5 x6 (([]:List (S25))) ((rd_T25 x3 x6).f0) ((rd_T25 x3 x6).f1) ((rd_T25 x3 x6).f2))) else (none)) else (spec_l20Apart.l1 k x3 x5)
def spec_l20Apart.j3:Nat → List (S25) → Bool → Int → List (S25) → Int → Int → List (S25) → Option ((List (S25)))
 | 0,_,_,_,_,_,_,_=>none
 | k + 1,x3,x5,x6,x8,x475000,x475001,x475002=>if x475000 = 2 then (if 0 < (x475002.length:Int) then ((spec_l20Made.f k x3 ((rd_T25 x475002 0).f0) ((rd_T25 x475002 0).f1) ((rd_T25 x475002 0).f2)).bind fun t479=>(spec_l20Apart.j4 k x3 x5 x6 x8 t479 x475000 x475001 x475002)) else (none)) else (spec_l20Apart.j4 k x3 x5 x6 x8 false x475000 x475001 x475002)
def spec_l20Apart.j4:Nat → List (S25) → Bool → Int → List (S25) → Bool → Int → Int → List (S25) → Option ((List (S25)))
 | 0,_,_,_,_,_,_,_,_=>none
 | k + 1,x3,x5,x6,x8,x58,x475000,x475001,x475002=>if x58 = true then (if 1 ≤ (x475002.length:Int) then (spec_l20Apart.j5 k x3 x5 x6 (x475002.drop 1)) else (none)) else (spec_l20Apart.j5 k x3 x5 x6 x8)
def spec_l20Apart.j5:Nat → List (S25) → Bool → Int → List (S25) → Option ((List (S25)))
 | 0,_,_,_,_=>none
 | k + 1,x3,x5,x6,x8=>spec_l20Apart.l3 k x3 x5 x6 x8 0
def spec_l20Apart.l3:Nat → List (S25) → Bool → Int → List (S25) → Int → Option ((List (S25)))
 | 0,_,_,_,_,_=>none
 | k + 1,x3,x5,x6,x8,x9=>if x9 < (x8.length:Int) then (if 0 ≤ x9 then ((spec_l20Has.f k x3 ((rd_T25 x8 x9).f0) ((rd_T25 x8 x9).f1) ((rd_T25 x8 x9).f2)).bind fun t486=>(if t486 = true then (spec_l20Apart.l3 k x3 x5 x6 x8 (wrap64 (x9 + 1))) else (if x3.length < 3518437208883 then (spec_l20Apart.l3 k (x3 ++ [(⟨(rd_T25 x8 x9).f0,(rd_T25 x8 x9).f1,(rd_T25 x8 x9).f2⟩:S25)]) true x6 x8 (wrap64 (x9 + 1))) else (none)))) else (none)) else (spec_l20Apart.l2 k x3 x5 (wrap64 (x6 + 1)))
end
def spec_l20Apart.f (k:Nat) (l0:List (S25)):Option ((List (S25))):=spec_l20Apart.l0 k l0 (([]:List (S25))) 0
theorem spec_l20Apart.mono_l:∀ k,(∀ y0 y1 y2,LeO (spec_l20Apart.l0 k y0 y1 y2) (spec_l20Apart.l0 (k + 1) y0 y1 y2))∧(∀ y0 y1,LeO (spec_l20Apart.l1 k y0 y1) (spec_l20Apart.l1 (k + 1) y0 y1))∧(∀ y0 y1 y2,LeO (spec_l20Apart.l2 k y0 y1 y2) (spec_l20Apart.l2 (k + 1) y0 y1 y2))∧(∀ y0 y1 y2 y3 y4 y5 y6,LeO (spec_l20Apart.j3 k y0 y1 y2 y3 y4 y5 y6) (spec_l20Apart.j3 (k + 1) y0 y1 y2 y3 y4 y5 y6))∧(∀ y0 y1 y2 y3 y4 y5 y6 y7,LeO (spec_l20Apart.j4 k y0 y1 y2 y3 y4 y5 y6 y7) (spec_l20Apart.j4 (k + 1) y0 y1 y2 y3 y4 y5 y6 y7))∧(∀ y0 y1 y2 y3,LeO (spec_l20Apart.j5 k y0 y1 y2 y3) (spec_l20Apart.j5 (k + 1) y0 y1 y2 y3))∧(∀ y0 y1 y2 y3 y4,LeO (spec_l20Apart.l3 k y0 y1 y2 y3 y4) (spec_l20Apart.l3 (k + 1) y0 y1 y2 y3 y4))
 | 0=>⟨fun _ _ _ r h=>by simp [spec_l20Apart.l0] at h,fun _ _ r h=>by simp [spec_l20Apart.l1] at h,fun _ _ _ r h=>by simp [spec_l20Apart.l2] at h,fun _ _ _ _ _ _ _ r h=>by simp [spec_l20Apart.j3] at h,fun _ _ _ _ _ _ _ _ r h=>by simp [spec_l20Apart.j4] at h,fun _ _ _ _ r h=>by simp [spec_l20Apart.j5] at h,fun _ _ _ _ _ r h=>by simp [spec_l20Apart.l3] at h⟩
 | k + 1=>by
  obtain ⟨ih0,ih1,ih2,ih3,ih4,ih5,ih6⟩:=spec_l20Apart.mono_l k
  refine ⟨?_,?_,?_,?_,?_,?_,?_⟩
  ·intro y0 y1 y2
   unfold spec_l20Apart.l0
   repeat' first
   | (with_reducible exact ih0 _ _ _)
   | (with_reducible exact ih1 _ _)
   | (with_reducible exact ih2 _ _ _)
   | (with_reducible exact ih3 _ _ _ _ _ _ _)
   | (with_reducible exact ih4 _ _ _ _ _ _ _ _)
   | (with_reducible exact ih5 _ _ _ _)
   | (with_reducible exact ih6 _ _ _ _ _)
   | (with_reducible exact spec_l20Has.mono _ _ _ _ _)
   | (with_reducible exact spec_l20Made.mono _ _ _ _ _)
   | (with_reducible exact LeO.refl _)
   | (with_reducible exact LeO.none _)
   | (with_reducible refine LeO.ite ?_ ?_)
   | (with_reducible refine LeO.bind ?_ (fun _=>?_))
   | exact ih0 _ _ _
   | exact ih1 _ _
   | exact ih2 _ _ _
   | exact ih3 _ _ _ _ _ _ _
   | exact ih4 _ _ _ _ _ _ _ _
   | exact ih5 _ _ _ _
   | exact ih6 _ _ _ _ _
   | exact spec_l20Has.mono _ _ _ _ _
   | exact spec_l20Made.mono _ _ _ _ _
   | exact LeO.none _
   | refine LeO.ite ?_ ?_
   | refine LeO.bind ?_ (fun _=>?_)
  ·intro y0 y1
   unfold spec_l20Apart.l1
   repeat' first
   | (with_reducible exact ih0 _ _ _)
   | (with_reducible exact ih1 _ _)
   | (with_reducible exact ih2 _ _ _)
   | (with_reducible exact ih3 _ _ _ _ _ _ _)
   | (with_reducible exact ih4 _ _ _ _ _ _ _ _)
   | (with_reducible exact ih5 _ _ _ _)
   | (with_reducible exact ih6 _ _ _ _ _)
   | (with_reducible exact spec_l20Has.mono _ _ _ _ _)
   | (with_reducible exact spec_l20Made.mono _ _ _ _ _)
   | (with_reducible exact LeO.refl _)
   | (with_reducible exact LeO.none _)
   | (with_reducible refine LeO.ite ?_ ?_)
   | (with_reducible refine LeO.bind ?_ (fun _=>?_))
   | exact ih0 _ _ _
   | exact ih1 _ _
   | exact ih2 _ _ _
   | exact ih3 _ _ _ _ _ _ _
   | exact ih4 _ _ _ _ _ _ _ _
   | exact ih5 _ _ _ _
   | exact ih6 _ _ _ _ _
   | exact spec_l20Has.mono _ _ _ _ _
   | exact spec_l20Made.mono _ _ _ _ _
   | exact LeO.none _
   | refine LeO.ite ?_ ?_
   | refine LeO.bind ?_ (fun _=>?_)
  ·intro y0 y1 y2
   unfold spec_l20Apart.l2
   repeat' first
   | (with_reducible exact ih0 _ _ _)
   | (with_reducible exact ih1 _ _)
   | (with_reducible exact ih2 _ _ _)
   | (with_reducible exact ih3 _ _ _ _ _ _ _)
   | (with_reducible exact ih4 _ _ _ _ _ _ _ _)
   | (with_reducible exact ih5 _ _ _ _)
   | (with_reducible exact ih6 _ _ _ _ _)
   | (with_reducible exact spec_l20Has.mono _ _ _ _ _)
   | (with_reducible exact spec_l20Made.mono _ _ _ _ _)
   | (with_reducible exact LeO.refl _)
   | (with_reducible exact LeO.none _)
   | (with_reducible refine LeO.ite ?_ ?_)
   | (with_reducible refine LeO.bind ?_ (fun _=>?_))
   | exact ih0 _ _ _
   | exact ih1 _ _
   | exact ih2 _ _ _
   | exact ih3 _ _ _ _ _ _ _
   | exact ih4 _ _ _ _ _ _ _ _
   | exact ih5 _ _ _ _
   | exact ih6 _ _ _ _ _
   | exact spec_l20Has.mono _ _ _ _ _
   | exact spec_l20Made.mono _ _ _ _ _
   | exact LeO.none _
   | refine LeO.ite ?_ ?_
   | refine LeO.bind ?_ (fun _=>?_)
  ·intro y0 y1 y2 y3 y4 y5 y6
   unfold spec_l20Apart.j3
   repeat' first
   | (with_reducible exact ih0 _ _ _)
   | (with_reducible exact ih1 _ _)
   | (with_reducible exact ih2 _ _ _)
   | (with_reducible exact ih3 _ _ _ _ _ _ _)
   | (with_reducible exact ih4 _ _ _ _ _ _ _ _)
   | (with_reducible exact ih5 _ _ _ _)
   | (with_reducible exact ih6 _ _ _ _ _)
   | (with_reducible exact spec_l20Has.mono _ _ _ _ _)
   | (with_reducible exact spec_l20Made.mono _ _ _ _ _)
   | (with_reducible exact LeO.refl _)
   | (with_reducible exact LeO.none _)
   | (with_reducible refine LeO.ite ?_ ?_)
   | (with_reducible refine LeO.bind ?_ (fun _=>?_))
   | exact ih0 _ _ _
   | exact ih1 _ _
   | exact ih2 _ _ _
   | exact ih3 _ _ _ _ _ _ _
   | exact ih4 _ _ _ _ _ _ _ _
   | exact ih5 _ _ _ _
   | exact ih6 _ _ _ _ _
   | exact spec_l20Has.mono _ _ _ _ _
   | exact spec_l20Made.mono _ _ _ _ _
   | exact LeO.none _
   | refine LeO.ite ?_ ?_
   | refine LeO.bind ?_ (fun _=>?_)
  ·intro y0 y1 y2 y3 y4 y5 y6 y7
   unfold spec_l20Apart.j4
   repeat' first
   | (with_reducible exact ih0 _ _ _)
   | (with_reducible exact ih1 _ _)
   | (with_reducible exact ih2 _ _ _)
   | (with_reducible exact ih3 _ _ _ _ _ _ _)
   | (with_reducible exact ih4 _ _ _ _ _ _ _ _)
   | (with_reducible exact ih5 _ _ _ _)
   | (with_reducible exact ih6 _ _ _ _ _)
   | (with_reducible exact spec_l20Has.mono _ _ _ _ _)
   | (with_reducible exact spec_l20Made.mono _ _ _ _ _)
   | (with_reducible exact LeO.refl _)
   | (with_reducible exact LeO.none _)
   | (with_reducible refine LeO.ite ?_ ?_)
   | (with_reducible refine LeO.bind ?_ (fun _=>?_))
   | exact ih0 _ _ _
   | exact ih1 _ _
   | exact ih2 _ _ _
   | exact ih3 _ _ _ _ _ _ _
   | exact ih4 _ _ _ _ _ _ _ _
   | exact ih5 _ _ _ _
   | exact ih6 _ _ _ _ _
   | exact spec_l20Has.mono _ _ _ _ _
   | exact spec_l20Made.mono _ _ _ _ _
   | exact LeO.none _
   | refine LeO.ite ?_ ?_
   | refine LeO.bind ?_ (fun _=>?_)
  ·intro y0 y1 y2 y3
   unfold spec_l20Apart.j5
   repeat' first
   | (with_reducible exact ih0 _ _ _)
   | (with_reducible exact ih1 _ _)
   | (with_reducible exact ih2 _ _ _)
   | (with_reducible exact ih3 _ _ _ _ _ _ _)
   | (with_reducible exact ih4 _ _ _ _ _ _ _ _)
   | (with_reducible exact ih5 _ _ _ _)
   | (with_reducible exact ih6 _ _ _ _ _)
   | (with_reducible exact spec_l20Has.mono _ _ _ _ _)
   | (with_reducible exact spec_l20Made.mono _ _ _ _ _)
   | (with_reducible exact LeO.refl _)
   | (with_reducible exact LeO.none _)
   | (with_reducible refine LeO.ite ?_ ?_)
   | (with_reducible refine LeO.bind ?_ (fun _=>?_))
   | exact ih0 _ _ _
   | exact ih1 _ _
   | exact ih2 _ _ _
   | exact ih3 _ _ _ _ _ _ _
   | exact ih4 _ _ _ _ _ _ _ _
   | exact ih5 _ _ _ _
   | exact ih6 _ _ _ _ _
   | exact spec_l20Has.mono _ _ _ _ _
   | exact spec_l20Made.mono _ _ _ _ _
   | exact LeO.none _
   | refine LeO.ite ?_ ?_
   | refine LeO.bind ?_ (fun _=>?_)
  ·intro y0 y1 y2 y3 y4
   unfold spec_l20Apart.l3
   repeat' first
   | (with_reducible exact ih0 _ _ _)
   | (with_reducible exact ih1 _ _)
   | (with_reducible exact ih2 _ _ _)
   | (with_reducible exact ih3 _ _ _ _ _ _ _)
   | (with_reducible exact ih4 _ _ _ _ _ _ _ _)
   | (with_reducible exact ih5 _ _ _ _)
   | (with_reducible exact ih6 _ _ _ _ _)
   | (with_reducible exact spec_l20Has.mono _ _ _ _ _)
   | (with_reducible exact spec_l20Made.mono _ _ _ _ _)
   | (with_reducible exact LeO.refl _)
   | (with_reducible exact LeO.none _)
   | (with_reducible refine LeO.ite ?_ ?_)
   | (with_reducible refine LeO.bind ?_ (fun _=>?_))
   | exact ih0 _ _ _
   | exact ih1 _ _
   | exact ih2 _ _ _
   | exact ih3 _ _ _ _ _ _ _
   | exact ih4 _ _ _ _ _ _ _ _
   | exact ih5 _ _ _ _
   | exact ih6 _ _ _ _ _
   | exact spec_l20Has.mono _ _ _ _ _
   | exact spec_l20Made.mono _ _ _ _ _
   | exact LeO.none _
   | refine LeO.ite ?_ ?_
   | refine LeO.bind ?_ (fun _=>?_)
theorem spec_l20Apart.mono:∀ a0 k,LeO (spec_l20Apart.f k a0) (spec_l20Apart.f (k + 1) a0):=by
 intro a0 k
 obtain ⟨ih0,ih1,ih2,ih3,ih4,ih5,ih6⟩:=spec_l20Apart.mono_l k
 unfold spec_l20Apart.f
 repeat' first
   | (with_reducible exact ih0 _ _ _)
   | (with_reducible exact ih1 _ _)
   | (with_reducible exact ih2 _ _ _)
   | (with_reducible exact ih3 _ _ _ _ _ _ _)
   | (with_reducible exact ih4 _ _ _ _ _ _ _ _)
   | (with_reducible exact ih5 _ _ _ _)
   | (with_reducible exact ih6 _ _ _ _ _)
   | (with_reducible exact spec_l20Has.mono _ _ _ _ _)
   | (with_reducible exact spec_l20Made.mono _ _ _ _ _)
   | (with_reducible exact LeO.refl _)
   | (with_reducible exact LeO.none _)
   | (with_reducible refine LeO.ite ?_ ?_)
   | (with_reducible refine LeO.bind ?_ (fun _=>?_))
   | exact ih0 _ _ _
   | exact ih1 _ _
   | exact ih2 _ _ _
   | exact ih3 _ _ _ _ _ _ _
   | exact ih4 _ _ _ _ _ _ _ _
   | exact ih5 _ _ _ _
   | exact ih6 _ _ _ _ _
   | exact spec_l20Has.mono _ _ _ _ _
   | exact spec_l20Made.mono _ _ _ _ _
   | exact LeO.none _
   | refine LeO.ite ?_ ?_
   | refine LeO.bind ?_ (fun _=>?_)
set_option maxHeartbeats 8000000 in
set_option maxRecDepth 100000 in
theorem spec_l20Apart.calls (k:Nat) (P0_:Nat → Prop) (A0:Option Addr) (c0:Nat) (l0:List (S25)) (r:List (S25)) (w:World) (hs0:Kd.V k25 25 w w.heap.size (fun k_=>P0_ k_) (.slice A0 l0.length c0) l0) (h:spec_l20Apart.f k l0 = some r) :
  Calls Tryd.prog 53 #[.slice A0 l0.length c0] w fun e w'=>∃ v0_:Value,e = .returned (v0_)∧Kd.N k25 25 w' w.heap.size (fun k_=>(P0_ k_ ∨ w.heap.size ≤ k_)) v0_ r∧Below w.heap.size w w':=by
 have hu25:=Tryd.underlying25
 have HO0:=Aside0.mk (show Kd.V k25 25 w w.heap.size (fun k_=>(P0_ k_ ∨ w.heap.size ≤ k_)) (.slice A0 l0.length c0) l0 from Kd.V_mono hs0 (fun k_ hk=>.inl hk))
 have HB:=Aside0.mk (Below.refl w.heap.size w)
 have H:(spec_l20Apart.l0 k l0 (([]:List (S25))) 0) = some r:=h
 clear h
 obtain ⟨y464,hy464⟩:∃ y_:List (S25),y_ = (([]:List (S25))):=⟨_,rfl⟩
 replace H:(spec_l20Apart.l0 k l0 y464 0) = some r:=by first | (rw [hy464];with_reducible exact H) | (have H2_:=(Option.bind_some _ _).symm.trans H;rw [hy464];with_reducible exact H2_) | (have H2_:=(Option.bind_some _ _).symm.trans H;with_reducible exact H2_) | with_reducible exact H | (rw [hy464];exact H) | exact H
 have Ny464:=Aside0.mk hy464
 clear hy464
 have H':=Aside0.mk H
 clear H
 go_enter Tryd.func53,Tryd.ntmps53
 go_wp2_with (first | ((with_reducible refine gate_dst (N:=10) rfl ?_);refine Kd.N_lit k25 _ 25 ?hg (N':=10) ?hd (xs:=([]:List (S25))) (inner:=[]) (ok:=(fun k_=>(P0_ k_ ∨ w.heap.size ≤ k_))) (okp:=(fun k_=>(P0_ k_ ∨ w.heap.size ≤ k_))) ?hr ?hp (fun _ hk=>hk) ((show ∀ k_,w.heap.size ≤ k_ → (fun k_=>(P0_ k_ ∨ w.heap.size ≤ k_)) k_ from fun k_ hk=>(.inr (Nat.le_trans (below_size (by repeat (first | (with_reducible first | exact HB.out | apply below_alloc | apply pw_below_drewN | apply below_drew1) | exact HB.out))) hk))) _ (Nat.le_refl _)) (Below.refl _ _) (Nat.le_refl _) (by simp) ?_;(case hd=>rfl);(case hg=>rfl);(case hr=>first | (go_simp;done) | (go_simp;rfl));(case hp=>exact (Reps.none _ _));intro v465 w2 ho3 hb hg_ hnew_;clear hg_ hnew_;(first | rw [← Ny464.out] at ho3 | (simp only [Int.reduceToNat] at ho3;rw [← Ny464.out] at ho3));have n0_:=Aside0.mk (Kd.V_elder' (by (with_reducible repeat (first | apply Kd.V_alloc | apply Kd.V_drewN | apply Kd.V_drew));exact HO0.out) (Kd.N_base ho3) hb);have n1_:=Aside0.mk (Kd.N_lower ho3 (below_size (by repeat (first | (with_reducible first | exact HB.out | apply below_alloc | apply pw_below_drewN | apply below_drew1) | exact HB.out))));have n2_:=Aside0.mk (below_step (by repeat (first | (with_reducible first | exact HB.out | apply below_alloc | apply pw_below_drewN | apply below_drew1) | exact HB.out)) hb);clear HO0;clear HB;have HO0:=n0_;have HO466:=n1_;have HB:=n2_;clear n0_ n1_ n2_;clear hb ho3))
 go_loopg [3,4] k (fun kq v3 v4 w'=>∃ (x3_1:List (S25)) (x4_1:Int),v4 = .int .i64 x4_1∧Aside0 (spec_l20Apart.l0 kq l0 x3_1 x4_1 = some r)∧Aside0 (kq ≤ k)∧Aside0 (Kd.V k25 25 w' w.heap.size (fun k_=>(P0_ k_ ∨ w.heap.size ≤ k_)∧some k_ ≠ (v3:Value).ownBlock) (.slice A0 l0.length c0) l0)∧Aside0 (Kd.N k25 25 w' w.heap.size (fun k_=>(P0_ k_ ∨ w.heap.size ≤ k_)) v3 x3_1)∧Aside0 (Below w.heap.size w w'))
 case atStart=>exact ⟨(y464),(0),(by first | rfl | (simp;done) | (simp [*];done)),H',⟨Nat.le_refl _⟩,⟨by (with_reducible repeat (first | apply Kd.V_alloc | apply Kd.V_drewN | apply Kd.V_drew));exact HO0.out⟩,⟨by (with_reducible repeat (first | apply Kd.N_alloc | apply Kd.N_drewN | apply Kd.N_drew));exact HO466.out⟩,⟨by repeat (first | (with_reducible first | exact HB.out | apply below_alloc | apply pw_below_drewN | apply below_drew1) | exact HB.out)⟩⟩
 case round =>
  clear H'
  try clear p2
  obtain ⟨x3_1,x4_1,rfl,HA,HK1,HO_0,HO_3,HB⟩:=hrel
  cases gk with
  | zero=>exact absurd HA.out (by simp [spec_l20Apart.l0])
  | succ k1 =>
   have H:=HA.out
   clear HA
   simp only [spec_l20Apart.l0] at H
   by_cases c4:x4_1 < (l0.length:Int)
   ·rw [if_pos c4] at H
    have c4b0:decide (x4_1 < (l0.length:Int)) = true:=decide_eq_true c4
    clear c4
    by_cases c5:0 ≤ x4_1
    ·rw [if_pos c5] at H
     have c5b0:decide (0 ≤ x4_1) = true:=decide_eq_true c5
     clear c5
     replace H:=Option.bind_eq_some_iff.mp H
     obtain ⟨t468,A60,H⟩:=H
     replace H:(if t468 = true then (spec_l20Apart.l0 k1 l0 x3_1 (wrap64 (x4_1 + 1))) else (if x3_1.length < 3518437208883 then (spec_l20Apart.l0 k1 l0 (x3_1 ++ [(⟨(rd_T25 l0 x4_1).f0,(rd_T25 l0 x4_1).f1,(rd_T25 l0 x4_1).f2⟩:S25)]) (wrap64 (x4_1 + 1))) else (none))) = some r:=H
     have A6:=Aside0.mk A60
     clear A60
     by_cases c7:t468 = true
     ·subst c7
      have H1:(spec_l20Apart.l0 k1 l0 x3_1 (wrap64 (x4_1 + 1))) = some r:=by rw [if_pos rfl] at H;exact H
      clear H
      have H:=H1
      clear H1
      have H':=Aside0.mk H
      clear H
      have p467:0 ≤ (x4_1:Int):=of_decide_eq_true (by first | (with_reducible assumption) | assumption)
      have q467:x4_1 < (l0.length:Int):=of_decide_eq_true (by first | (with_reducible assumption) | assumption)
      obtain ⟨ad467,A467_2,c467_2,e467,hx467_0,hx467_1,hx467_2,hl467_2,hi467_2⟩:=at_T25 (Kd.V_reads' HO_0.out).2.2 x4_1 p467 q467
      cases e467
      obtain ⟨ce467,hce467,hMe467,hcc467⟩:=Kd.V_get HO_0.out z25 x4_1 p467 (by first | exact q467 | exact of_decide_eq_true (by first | (with_reducible assumption) | assumption) | (have e_:=(Kd.V_reads' HO_0.out).1;omega))
      obtain ⟨ua467_2,uc467_2,rfl,ul467_2,ge467_2⟩:=k25_openF hMe467
      have hv467_2:=hcc467 2 _ rfl
      rw [add_field _ _ 2 (by omega)] at hv467_2
      replace hv467_2:=Option.some.inj (hv467_2.symm.trans hx467_2)
      injection hv467_2 with hva_ hvn_ hvc_
      rw [hva_] at ge467_2
      rw [hvc_] at ul467_2
      have HL467_2:=Aside0.mk (show Kd.V k25 25 _ w.heap.size _ _ ((rd_T25 l0 x4_1).f2) from Kd.V_mk ul467_2 ge467_2)
      clear hva_ hvn_ hvc_ ge467_2 ul467_2
      clear hcc467 hce467
      have HR467_2:=Aside0.mk hi467_2
      have HC467_2:=Aside0.mk hl467_2
      clear hi467_2 hl467_2
      replace p467:=eq_true p467
      replace q467:=eq_true q467
      obtain ⟨Ao8,co8,eo8⟩:=Kd.N_slice HO_3.out
      subst eo8
      go_wp2_with (first | ((with_reducible refine gate_callee (f:=63) rfl ?_);refine goesL_ (some 22) rfl rfl Tryd.func63 (by kernel_rfl) rfl #[.slice Ao8 x3_1.length co8,.agg #[.int .i64 ((rd_T25 l0 x4_1).f0),.int .i64 ((rd_T25 l0 x4_1).f1),.slice A467_2 ((rd_T25 l0 x4_1).f2).length c467_2]] rfl (by (try simp only [List.map_toArray,List.map_cons,List.map_nil]);first | done | rfl | (simp only [List.length_drop,List.length_take];rfl)) ?_;(with_reducible refine (spec_l20Has.calls k1 _ _ x3_1 ((rd_T25 l0 x4_1).f0) ((rd_T25 l0 x4_1).f1) _ _ ((rd_T25 l0 x4_1).f2) true _ ?side1 ?side2 ?side3 ?side4 A6.out).mono ?_);(case side1=>repeat (first | exact (Kd.N_reads' HO_3.out).2.2 | (with_reducible refine Kd.C_alloc ?_ _) | (with_reducible refine Kd.C_drewN ?_ _) | (with_reducible refine Kd.C_drew ?_)));(case side2=>exact (Kd.N_reads' HO_3.out).2.1);(case side3=>repeat (first | exact (by repeat (first | (with_reducible exact HR467_2.out) | (with_reducible refine Kd.C_alloc ?_ _) | (with_reducible refine Kd.C_drewN ?_ _) | (with_reducible refine Kd.C_drew ?_) | exact HR467_2.out)) | (with_reducible refine Kd.C_alloc ?_ _) | (with_reducible refine Kd.C_drewN ?_ _) | (with_reducible refine Kd.C_drew ?_)));(case side4=>exact HC467_2.out);rintro e w9 ⟨rfl,hb⟩;refine ⟨_,rfl,?_⟩;have n0_:=Aside0.mk (Kd.V_below (by (with_reducible repeat (first | apply Kd.V_alloc | apply Kd.V_drewN | apply Kd.V_drew));exact HO_0.out) hb);have n1_:=Aside0.mk (Kd.N_below (by (with_reducible repeat (first | apply Kd.N_alloc | apply Kd.N_drewN | apply Kd.N_drew));exact HO_3.out) hb);have n2_:=Aside0.mk (Kd.V_below (by (with_reducible repeat (first | apply Kd.V_alloc | apply Kd.V_drewN | apply Kd.V_drew));exact HL467_2.out) hb);have n3_:=Aside0.mk (Kd.C_below (by repeat (first | (with_reducible exact HR467_2.out) | (with_reducible refine Kd.C_alloc ?_ _) | (with_reducible refine Kd.C_drewN ?_ _) | (with_reducible refine Kd.C_drew ?_) | exact HR467_2.out)) hb);have n4_:=Aside0.mk (below_step (by repeat (first | (with_reducible first | exact HB.out | apply below_alloc | apply pw_below_drewN | apply below_drew1) | exact HB.out)) hb);clear HO_0;clear HO_3;clear HL467_2;clear HR467_2;clear HB;have HO_0:=n0_;have HO_3:=n1_;have HL467_2:=n2_;have HR467_2:=n3_;have HB:=n4_;clear n0_ n1_ n2_ n3_ n4_;(try clear hb);(try clear hb2);(try clear hk);(try clear hi)))
      go_roundg k1
      case measure=>have:=HK1.out;omega
      case rel=>exact ⟨(x3_1),(wrap64 (x4_1 + 1)),(by first | rfl | (simp;done) | (simp [*];done)),H',⟨by have:=HK1.out;omega⟩,⟨by (with_reducible repeat (first | apply Kd.V_alloc | apply Kd.V_drewN | apply Kd.V_drew));exact HO_0.out⟩,⟨by (with_reducible repeat (first | apply Kd.N_alloc | apply Kd.N_drewN | apply Kd.N_drew));exact HO_3.out⟩,⟨by repeat (first | (with_reducible first | exact HB.out | apply below_alloc | apply pw_below_drewN | apply below_drew1) | exact HB.out)⟩⟩
     ·replace c7:=Bool.eq_false_iff.mpr c7
      subst c7
      have H1:(if x3_1.length < 3518437208883 then (spec_l20Apart.l0 k1 l0 (x3_1 ++ [(⟨(rd_T25 l0 x4_1).f0,(rd_T25 l0 x4_1).f1,(rd_T25 l0 x4_1).f2⟩:S25)]) (wrap64 (x4_1 + 1))) else (none)) = some r:=by rw [if_neg (show ¬ (false = true) by decide)] at H;exact H
      clear H
      have H:=H1
      clear H1
      by_cases c10:x3_1.length < 3518437208883
      ·rw [if_pos c10] at H
       have LMc10:=Aside0.mk c10
       clear c10
       obtain ⟨y470,hy470⟩:∃ y_:List (S25),y_ = (x3_1 ++ [(⟨(rd_T25 l0 x4_1).f0,(rd_T25 l0 x4_1).f1,(rd_T25 l0 x4_1).f2⟩:S25)]):=⟨_,rfl⟩
       replace H:(spec_l20Apart.l0 k1 l0 y470 (wrap64 (x4_1 + 1))) = some r:=by first | (rw [hy470];with_reducible exact H) | (have H2_:=(Option.bind_some _ _).symm.trans H;rw [hy470];with_reducible exact H2_) | (have H2_:=(Option.bind_some _ _).symm.trans H;with_reducible exact H2_) | with_reducible exact H | (rw [hy470];exact H) | exact H
       have Ny470:=Aside0.mk hy470
       clear hy470
       have H':=Aside0.mk H
       clear H
       have p467:0 ≤ (x4_1:Int):=of_decide_eq_true (by first | (with_reducible assumption) | assumption)
       have q467:x4_1 < (l0.length:Int):=of_decide_eq_true (by first | (with_reducible assumption) | assumption)
       obtain ⟨ad467,A467_2,c467_2,e467,hx467_0,hx467_1,hx467_2,hl467_2,hi467_2⟩:=at_T25 (Kd.V_reads' HO_0.out).2.2 x4_1 p467 q467
       cases e467
       obtain ⟨ce467,hce467,hMe467,hcc467⟩:=Kd.V_get HO_0.out z25 x4_1 p467 (by first | exact q467 | exact of_decide_eq_true (by first | (with_reducible assumption) | assumption) | (have e_:=(Kd.V_reads' HO_0.out).1;omega))
       obtain ⟨ua467_2,uc467_2,rfl,ul467_2,ge467_2⟩:=k25_openF hMe467
       have hv467_2:=hcc467 2 _ rfl
       rw [add_field _ _ 2 (by omega)] at hv467_2
       replace hv467_2:=Option.some.inj (hv467_2.symm.trans hx467_2)
       injection hv467_2 with hva_ hvn_ hvc_
       rw [hva_] at ge467_2
       rw [hvc_] at ul467_2
       have HL467_2:=Aside0.mk (show Kd.V k25 25 _ w.heap.size _ _ ((rd_T25 l0 x4_1).f2) from Kd.V_mk ul467_2 ge467_2)
       clear hva_ hvn_ hvc_ ge467_2 ul467_2
       clear hcc467 hce467
       have HR467_2:=Aside0.mk hi467_2
       have HC467_2:=Aside0.mk hl467_2
       clear hi467_2 hl467_2
       replace p467:=eq_true p467
       replace q467:=eq_true q467
       obtain ⟨Ao11,co11,eo11⟩:=Kd.N_slice HO_3.out
       subst eo11
       go_wp2_with (first | ((with_reducible refine gate_callee (f:=63) rfl ?_);refine goesL_ (some 22) rfl rfl Tryd.func63 (by kernel_rfl) rfl #[.slice Ao11 x3_1.length co11,.agg #[.int .i64 ((rd_T25 l0 x4_1).f0),.int .i64 ((rd_T25 l0 x4_1).f1),.slice A467_2 ((rd_T25 l0 x4_1).f2).length c467_2]] rfl (by (try simp only [List.map_toArray,List.map_cons,List.map_nil]);first | done | rfl | (simp only [List.length_drop,List.length_take];rfl)) ?_;(with_reducible refine (spec_l20Has.calls k1 _ _ x3_1 ((rd_T25 l0 x4_1).f0) ((rd_T25 l0 x4_1).f1) _ _ ((rd_T25 l0 x4_1).f2) false _ ?side1 ?side2 ?side3 ?side4 A6.out).mono ?_);(case side1=>repeat (first | exact (Kd.N_reads' HO_3.out).2.2 | (with_reducible refine Kd.C_alloc ?_ _) | (with_reducible refine Kd.C_drewN ?_ _) | (with_reducible refine Kd.C_drew ?_)));(case side2=>exact (Kd.N_reads' HO_3.out).2.1);(case side3=>repeat (first | exact (by repeat (first | (with_reducible exact HR467_2.out) | (with_reducible refine Kd.C_alloc ?_ _) | (with_reducible refine Kd.C_drewN ?_ _) | (with_reducible refine Kd.C_drew ?_) | exact HR467_2.out)) | (with_reducible refine Kd.C_alloc ?_ _) | (with_reducible refine Kd.C_drewN ?_ _) | (with_reducible refine Kd.C_drew ?_)));(case side4=>exact HC467_2.out);rintro e w12 ⟨rfl,hb⟩;refine ⟨_,rfl,?_⟩;have n0_:=Aside0.mk (Kd.V_below (by (with_reducible repeat (first | apply Kd.V_alloc | apply Kd.V_drewN | apply Kd.V_drew));exact HO_0.out) hb);have n1_:=Aside0.mk (Kd.N_below (by (with_reducible repeat (first | apply Kd.N_alloc | apply Kd.N_drewN | apply Kd.N_drew));exact HO_3.out) hb);have n2_:=Aside0.mk (Kd.V_below (by (with_reducible repeat (first | apply Kd.V_alloc | apply Kd.V_drewN | apply Kd.V_drew));exact HL467_2.out) hb);have n3_:=Aside0.mk (Kd.C_below (by repeat (first | (with_reducible exact HR467_2.out) | (with_reducible refine Kd.C_alloc ?_ _) | (with_reducible refine Kd.C_drewN ?_ _) | (with_reducible refine Kd.C_drew ?_) | exact HR467_2.out)) hb);have n4_:=Aside0.mk (below_step (by repeat (first | (with_reducible first | exact HB.out | apply below_alloc | apply pw_below_drewN | apply below_drew1) | exact HB.out)) hb);clear HO_0;clear HO_3;clear HL467_2;clear HR467_2;clear HB;have HO_0:=n0_;have HO_3:=n1_;have HL467_2:=n2_;have HR467_2:=n3_;have HB:=n4_;clear n0_ n1_ n2_ n3_ n4_;(try clear hb);(try clear hb2);(try clear hk);(try clear hi);have p469:0 ≤ (x4_1:Int):=of_decide_eq_true (by first | (with_reducible assumption) | assumption);have q469:x4_1 < (l0.length:Int):=of_decide_eq_true (by first | (with_reducible assumption) | assumption);obtain ⟨ad469,A469_2,c469_2,e469,hx469_0,hx469_1,hx469_2,hl469_2,hi469_2⟩:=at_T25 (Kd.V_reads' HO_0.out).2.2 x4_1 p469 q469;obtain rfl:ad467 = ad469:=(by injection e469);obtain ⟨ce469,hce469,hMe469,hcc469⟩:=Kd.V_get HO_0.out z25 x4_1 p469 (by first | exact q469 | exact of_decide_eq_true (by first | (with_reducible assumption) | assumption) | (have e_:=(Kd.V_reads' HO_0.out).1;omega));obtain ⟨ua469_2,uc469_2,rfl,ul469_2,ge469_2⟩:=k25_openF hMe469;have hv469_2:=hcc469 2 _ rfl;rw [add_field _ _ 2 (by omega)] at hv469_2;replace hv469_2:=Option.some.inj (hv469_2.symm.trans hx469_2);injection hv469_2 with hva_ hvn_ hvc_;rw [hva_] at ge469_2;rw [hvc_] at ul469_2;have HL469_2:=Aside0.mk (show Kd.V k25 25 _ w.heap.size _ _ ((rd_T25 l0 x4_1).f2) from Kd.V_mk ul469_2 ge469_2);clear hva_ hvn_ hvc_ ge469_2 ul469_2;clear hcc469 hce469;have HR469_2:=Aside0.mk hi469_2;have HC469_2:=Aside0.mk hl469_2;clear hi469_2 hl469_2;replace p469:=eq_true p469;replace q469:=eq_true q469) | ((with_reducible refine gate_builtin (b:=.append) (xs:=#[.tmp 24,.tmp 29]) rfl ?_);at_builtin;refine Kd.N_append k25 (w0:=w) w.heap.size rfl (.tmp 24) (.tmp 29) 23 25 (.agg #[(.int .i64 0),(.int .i64 0),(.slice none 0 0)]) 40 rfl Tryd.underlying23 info25 rfl (by decide) (by omega) (.slice Ao11 x3_1.length co11) x3_1 (⟨(rd_T25 l0 x4_1).f0,(rd_T25 l0 x4_1).f1,(rd_T25 l0 x4_1).f2⟩:S25) [.int .i64 ((rd_T25 l0 x4_1).f0),.int .i64 ((rd_T25 l0 x4_1).f1),.slice A469_2 ((rd_T25 l0 x4_1).f2).length c469_2] (fun k_=>(P0_ k_ ∨ w.heap.size ≤ k_)) (fun k_=>((fun k_=>(P0_ k_ ∨ w.heap.size ≤ k_))) k_∧some k_ ≠ (.slice Ao11 x3_1.length co11:Value).ownBlock) rfl rfl ?aP (fun _ hk=>hk) ?aF ?aO ?aB ?aS ?aL ?_;(case aP=>exact (k25_mkF _ _ (⟨(rd_T25 l0 x4_1).f0,(rd_T25 l0 x4_1).f1,(rd_T25 l0 x4_1).f2⟩:S25) (Kd.V_reads' (Kd.V_mono (ok':=(fun k_=>((fun k_=>(P0_ k_ ∨ w.heap.size ≤ k_))) k_∧some k_ ≠ (.slice Ao11 x3_1.length co11:Value).ownBlock)) (HL469_2.out) (fun k_ hk=>⟨hk.1,hk.2⟩))).2.1 (Kd.V_F (Kd.V_mono (ok':=(fun k_=>((fun k_=>(P0_ k_ ∨ w.heap.size ≤ k_))) k_∧some k_ ≠ (.slice Ao11 x3_1.length co11:Value).ownBlock)) (HL469_2.out) (fun k_ hk=>⟨hk.1,hk.2⟩)))));(case aB=>exact (by repeat (first | (with_reducible first | exact HB.out | apply below_alloc | apply pw_below_drewN | apply below_drew1) | exact HB.out)));(case aF=>exact (fun k_ hk=>(.inr (Nat.le_trans (below_size (by repeat (first | (with_reducible first | exact HB.out | apply below_alloc | apply pw_below_drewN | apply below_drew1) | exact HB.out))) hk))));(case aO=>exact (by (with_reducible repeat (first | apply Kd.N_alloc | apply Kd.N_drewN | apply Kd.N_drew));exact HO_3.out));(case aS=>exact (below_size (by repeat (first | (with_reducible first | exact HB.out | apply below_alloc | apply pw_below_drewN | apply below_drew1) | exact HB.out))));(case aL=>have:=LMc10.out;omega);intro v471 w13 ho hb hg hat;rw [← Ny470.out] at ho;have n0_:=Aside0.mk (Kd.V_afterv (ok:=(fun k_=>(P0_ k_ ∨ w.heap.size ≤ k_))) (by (with_reducible repeat (first | apply Kd.V_alloc | apply Kd.V_drewN | apply Kd.V_drew));exact HO_0.out) hg hat);have n1_:=Aside0.mk (Kd.V_afterv (ok:=(fun k_=>(P0_ k_ ∨ w.heap.size ≤ k_))) (by (with_reducible repeat (first | apply Kd.V_alloc | apply Kd.V_drewN | apply Kd.V_drew));exact HL467_2.out) hg hat);have n2_:=Aside0.mk (Kd.V_afterv (ok:=(fun k_=>(P0_ k_ ∨ w.heap.size ≤ k_))) (by (with_reducible repeat (first | apply Kd.V_alloc | apply Kd.V_drewN | apply Kd.V_drew));exact HL469_2.out) hg hat);have n3_:=Aside0.mk (hb);have n4_:=Aside0.mk (ho);clear HO_0;clear HL467_2;clear HL469_2;clear HB;clear HO_3;have HO_0:=n0_;have HL467_2:=n1_;have HL469_2:=n2_;have HB:=n3_;have HO472:=n4_;clear n0_ n1_ n2_ n3_ n4_;clear ho hb hg hat))
       go_roundg k1
       case measure=>have:=HK1.out;omega
       case rel=>exact ⟨(y470),(wrap64 (x4_1 + 1)),(by first | rfl | (simp;done) | (simp [*];done)),H',⟨by have:=HK1.out;omega⟩,⟨by (with_reducible repeat (first | apply Kd.V_alloc | apply Kd.V_drewN | apply Kd.V_drew));exact HO_0.out⟩,⟨by (with_reducible repeat (first | apply Kd.N_alloc | apply Kd.N_drewN | apply Kd.N_drew));exact HO472.out⟩,⟨by repeat (first | (with_reducible first | exact HB.out | apply below_alloc | apply pw_below_drewN | apply below_drew1) | exact HB.out)⟩⟩
      ·rw [if_neg c10] at H
       exact absurd H (by simp)
    ·rw [if_neg c5] at H
     exact absurd H (by simp)
   ·rw [if_neg c4] at H
    have c4b0:decide (x4_1 < (l0.length:Int)) = false:=decide_eq_false c4
    clear c4
    have H':=Aside0.mk H
    clear H
    go_wp2
    go_loopg [3,5] k1 (fun kq v3 v5 w'=>∃ (x3_2:List (S25)) (x5_2:Bool),v5 = .bool x5_2∧Aside0 (spec_l20Apart.l1 kq x3_2 x5_2 = some r)∧Aside0 (kq ≤ k1)∧Aside0 (Kd.N k25 25 w' w.heap.size (fun k_=>(P0_ k_ ∨ w.heap.size ≤ k_)) v3 x3_2)∧Aside0 (Below w.heap.size w w'))
    case atStart=>exact ⟨(x3_1),(true),(by first | rfl | (simp;done) | (simp [*];done)),H',⟨Nat.le_refl _⟩,⟨by (with_reducible repeat (first | apply Kd.N_alloc | apply Kd.N_drewN | apply Kd.N_drew));exact HO_3.out⟩,⟨by repeat (first | (with_reducible first | exact HB.out | apply below_alloc | apply pw_below_drewN | apply below_drew1) | exact HB.out)⟩⟩
    case round =>
     clear H'
     try clear c1
     try clear p2
     try clear c4
     try clear c4b0
     try clear p4
     try clear q4
     try clear hx4
     try clear c5
     try clear c5b0
     try clear c6
     try clear p6
     try clear c7
     try clear c10
     try clear hx467_0
     try clear hx467_1
     try clear hx467_2
     try clear hx469_0
     try clear hx469_1
     try clear hx469_2
     try clear p2
     try clear p467
     try clear p469
     try clear q467
     try clear q469
     obtain ⟨x3_2,x5_2,rfl,HA,HK2,HO_3,HB⟩:=hrel
     cases gk with
     | zero=>exact absurd HA.out (by simp [spec_l20Apart.l1])
     | succ k2 =>
      have H:=HA.out
      clear HA
      simp only [spec_l20Apart.l1] at H
      by_cases c14:x5_2 = true
      ·subst c14
       have H1:(spec_l20Apart.l2 k2 x3_2 false 0) = some r:=by rw [if_pos rfl] at H;exact H
       clear H
       have H:=H1
       clear H1
       have H':=Aside0.mk H
       clear H
       go_wp2
       go_loopg [3,5,6] k2 (fun kq v3 v5 v6 w'=>∃ (x3_3:List (S25)) (x5_3:Bool) (x6_3:Int),v5 = .bool x5_3∧v6 = .int .i64 x6_3∧Aside0 (spec_l20Apart.l2 kq x3_3 x5_3 x6_3 = some r)∧Aside0 (kq ≤ k2)∧Aside0 (Kd.N k25 25 w' w.heap.size (fun k_=>(P0_ k_ ∨ w.heap.size ≤ k_)) v3 x3_3)∧Aside0 (Below w.heap.size w w'))
       case atStart=>exact ⟨(x3_2),(false),(0),(by first | rfl | (simp;done) | (simp [*];done)),(by first | rfl | (simp;done) | (simp [*];done)),H',⟨Nat.le_refl _⟩,⟨by (with_reducible repeat (first | apply Kd.N_alloc | apply Kd.N_drewN | apply Kd.N_drew));exact HO_3.out⟩,⟨by repeat (first | (with_reducible first | exact HB.out | apply below_alloc | apply pw_below_drewN | apply below_drew1) | exact HB.out)⟩⟩
       case round =>
        clear H'
        try clear c1
        try clear p2
        try clear c4
        try clear c4b0
        try clear p4
        try clear q4
        try clear hx4
        try clear c5
        try clear c5b0
        try clear c6
        try clear p6
        try clear c7
        try clear c10
        try clear c14
        try clear hx467_0
        try clear hx467_1
        try clear hx467_2
        try clear hx469_0
        try clear hx469_1
        try clear hx469_2
        try clear p2
        try clear p4
        try clear p467
        try clear p469
        try clear p6
        try clear q4
        try clear q467
        try clear q469
        obtain ⟨x3_3,x5_3,x6_3,rfl,rfl,HA,HK3,HO_3,HB⟩:=hrel
        cases gk with
        | zero=>exact absurd HA.out (by simp [spec_l20Apart.l2])
        | succ k3 =>
         have H:=HA.out
         clear HA
         simp only [spec_l20Apart.l2] at H
         by_cases c15:x6_3 < (x3_3.length:Int)
         ·rw [if_pos c15] at H
          have c15b0:decide (x6_3 < (x3_3.length:Int)) = true:=decide_eq_true c15
          clear c15
          by_cases c16:0 ≤ x6_3
          ·rw [if_pos c16] at H
           have c16b0:decide (0 ≤ x6_3) = true:=decide_eq_true c16
           clear c16
           obtain ⟨y475,hy475⟩:∃ y_:List (S25),y_ = (([]:List (S25))):=⟨_,rfl⟩
           replace H:(if ((rd_T25 x3_3 x6_3).f0) = 1 then (spec_l20Apart.j3 k3 x3_3 x5_3 x6_3 ((rd_T25 x3_3 x6_3).f2) ((rd_T25 x3_3 x6_3).f0) ((rd_T25 x3_3 x6_3).f1) ((rd_T25 x3_3 x6_3).f2)) else (spec_l20Apart.j3 k3 x3_3 x5_3 x6_3 y475 ((rd_T25 x3_3 x6_3).f0) ((rd_T25 x3_3 x6_3).f1) ((rd_T25 x3_3 x6_3).f2))) = some r:=by first | (rw [hy475];with_reducible exact H) | (have H2_:=(Option.bind_some _ _).symm.trans H;rw [hy475];with_reducible exact H2_) | (have H2_:=(Option.bind_some _ _).symm.trans H;with_reducible exact H2_) | with_reducible exact H | (rw [hy475];exact H) | exact H
           have Ny475:=Aside0.mk hy475
           clear hy475
           have HC17:=Aside0.mk H
           clear H
           obtain ⟨Ao18,co18,eo18⟩:=Kd.N_slice HO_3.out
           subst eo18
           have p473:0 ≤ (x6_3:Int):=of_decide_eq_true (by first | (with_reducible assumption) | assumption)
           have q473:x6_3 < (x3_3.length:Int):=of_decide_eq_true (by first | (with_reducible assumption) | assumption)
           obtain ⟨ad473,A473_2,c473_2,e473,hx473_0,hx473_1,hx473_2,hl473_2,hi473_2⟩:=at_T25 (Kd.N_reads' HO_3.out).2.2 x6_3 p473 q473
           cases e473
           obtain ⟨ce473,hce473,hMe473,hcc473⟩:=Kd.N_get HO_3.out z25 x6_3 p473 (by first | exact q473 | exact of_decide_eq_true (by first | (with_reducible assumption) | assumption) | (have e_:=(Kd.N_reads' HO_3.out).1;omega))
           obtain ⟨ua473_2,uc473_2,rfl,ul473_2,ge473_2⟩:=k25_openF hMe473
           have hv473_2:=hcc473 2 _ rfl
           rw [add_field _ _ 2 (by omega)] at hv473_2
           replace hv473_2:=Option.some.inj (hv473_2.symm.trans hx473_2)
           injection hv473_2 with hva_ hvn_ hvc_
           rw [hva_] at ge473_2
           rw [hvc_] at ul473_2
           have HL473_2:=Aside0.mk (show Kd.V k25 25 _ w.heap.size _ _ ((rd_T25 x3_3 x6_3).f2) from Kd.V_mk ul473_2 ge473_2)
           clear hva_ hvn_ hvc_ ge473_2 ul473_2
           clear hcc473 hce473
           have HR473_2:=Aside0.mk hi473_2
           have HC473_2:=Aside0.mk hl473_2
           clear hi473_2 hl473_2
           replace p473:=eq_true p473
           replace q473:=eq_true q473
           go_upto_if 45 with (first | ((with_reducible refine gate_dst (N:=7) rfl ?_);refine box_event ?hg (N:=7) ?hd (cs:=#[.int .i64 0,.int .i64 0,.slice none 0 0]) (t:=25) ?hr ?_;(case hd=>rfl);(case hg=>rfl);(case hr=>first | (go_simp;done) | (go_simp;rfl));intro gb474 hg w19 hbox hb;have n0_:=Aside0.mk (Kd.N_below (Kd.N_elderB (by (with_reducible repeat (first | apply Kd.N_alloc | apply Kd.N_drewN | apply Kd.N_drew));exact HO_3.out) gb474 (Nat.le_of_eq hg.symm)) hb);have n1_:=Aside0.mk (Kd.V_below (Kd.V_elderB (by (with_reducible repeat (first | apply Kd.V_alloc | apply Kd.V_drewN | apply Kd.V_drew));exact HL473_2.out) gb474 (Nat.le_of_eq hg.symm)) hb);have n2_:=Aside0.mk (Kd.C_below (by repeat (first | (with_reducible exact HR473_2.out) | (with_reducible refine Kd.C_alloc ?_ _) | (with_reducible refine Kd.C_drewN ?_ _) | (with_reducible refine Kd.C_drew ?_) | exact HR473_2.out)) hb);have n3_:=Aside0.mk (below_step (by repeat (first | (with_reducible first | exact HB.out | apply below_alloc | apply pw_below_drewN | apply below_drew1) | exact HB.out)) hb);have n4_:=Aside0.mk (hbox);have n5_:=Aside0.mk ((by rw [hg];exact (below_size (by repeat (first | (with_reducible first | exact HB.out | apply below_alloc | apply pw_below_drewN | apply below_drew1) | exact HB.out))):w.heap.size ≤ gb474));have n6_:=Aside0.mk ((by rw [hg];exact (below_size (by repeat (first | (with_reducible first | exact HB.out | apply below_alloc | apply pw_below_drewN | apply below_drew1) | exact HB.out))):w.heap.size ≤ gb474));clear HO_3;clear HL473_2;clear HR473_2;clear HB;have HO_3:=n0_;have HL473_2:=n1_;have HR473_2:=n2_;have HB:=n3_;have BK474:=n4_;have GW474:=n5_;have GE474:=n6_;clear n0_ n1_ n2_ n3_ n4_ n5_ n6_;clear hb hbox hg;have hcz20_0:w19.cell? ⟨gb474,0,none⟩ = some (.int .i64 0):=(blk_cell BK474.out 0).trans rfl;have hcz20_1:w19.cell? ⟨gb474,1,none⟩ = some (.int .i64 0):=(blk_cell BK474.out 1).trans rfl;have hcz20_2:w19.cell? ⟨gb474,2,none⟩ = some (.slice none 0 0):=(blk_cell BK474.out 2).trans rfl;have hfz20_0:=blk_frozen BK474.out 0;have hfz20_1:=blk_frozen BK474.out 1;have hfz20_2:=blk_frozen BK474.out 2) | ((with_reducible refine gate_store (t:=25) (p:=7) rfl ?_);refine store_event (t:=25) (p:=7) (v:=?vo_w21) (w1:=(((w19.setCell ⟨gb474,0,none⟩ (.int .i64 ((rd_T25 x3_3 x6_3).f0))).setCell ⟨gb474,1,none⟩ (.int .i64 ((rd_T25 x3_3 x6_3).f1))).setCell ⟨gb474,2,none⟩ (.slice A473_2 ((rd_T25 x3_3 x6_3).f2).length c473_2))) ?hg ?ho ?hn ?hr ?_;(case ho=>rfl);(case hg=>rfl);(case hn=>rfl);(case hr=>first | (go_simp;done) | (go_simp;rfl));intro w21 hw;have n0_:Aside0 (Kd.N k25 25 w21 w.heap.size (fun k_=>(P0_ k_ ∨ w.heap.size ≤ k_)∧k_ ≠ gb474) (.slice (some ad473) x3_3.length co18) x3_3):=⟨(by rw [hw];exact (by (with_reducible repeat (first | apply Kd.N_alloc | apply Kd.N_drewN | apply Kd.N_drew));exact Kd.N_mono (Kd.N_far (p:=⟨gb474,2,none⟩) (Kd.N_far (p:=⟨gb474,1,none⟩) (Kd.N_far (p:=⟨gb474,0,none⟩) (Kd.N_mono HO_3.out (fun k_ hk=>(⟨hk,hk.2⟩:_∧k_ ≠ gb474))) (fun _ hk=>hk.2) (.int .i64 ((rd_T25 x3_3 x6_3).f0))) (fun _ hk=>hk.2) (.int .i64 ((rd_T25 x3_3 x6_3).f1))) (fun _ hk=>hk.2) (.slice A473_2 ((rd_T25 x3_3 x6_3).f2).length c473_2)) (fun _ hk=>⟨hk.1.1,hk.1.2⟩)))⟩;have n1_:Aside0 (Kd.V k25 25 w21 w.heap.size (fun k_=>(P0_ k_ ∨ w.heap.size ≤ k_)∧some k_ ≠ (.slice (some ad473) x3_3.length co18:Value).ownBlock∧k_ ≠ gb474) (.slice A473_2 ((rd_T25 x3_3 x6_3).f2).length c473_2) ((rd_T25 x3_3 x6_3).f2)):=⟨(by rw [hw];exact (by (with_reducible repeat (first | apply Kd.V_alloc | apply Kd.V_drewN | apply Kd.V_drew));exact Kd.V_mono (Kd.V_far (p:=⟨gb474,2,none⟩) (Kd.V_far (p:=⟨gb474,1,none⟩) (Kd.V_far (p:=⟨gb474,0,none⟩) (Kd.V_mono HL473_2.out (fun k_ hk=>(⟨hk,hk.2⟩:_∧k_ ≠ gb474))) (fun _ hk=>hk.2) (.int .i64 ((rd_T25 x3_3 x6_3).f0))) (fun _ hk=>hk.2) (.int .i64 ((rd_T25 x3_3 x6_3).f1))) (fun _ hk=>hk.2) (.slice A473_2 ((rd_T25 x3_3 x6_3).f2).length c473_2)) (fun _ hk=>⟨hk.1.1.1,⟨hk.1.1.2,hk.1.2⟩⟩)))⟩;have n2_:Aside0 (w21.heap[gb474]? = some (.cells #[.int .i64 ((rd_T25 x3_3 x6_3).f0),.int .i64 ((rd_T25 x3_3 x6_3).f1),.slice A473_2 ((rd_T25 x3_3 x6_3).f2).length c473_2] 25 (0,0))):=⟨(by rw [hw];exact (by (with_reducible repeat (first | refine blk_drewN ?_ _ | refine blk_drew ?_ | refine blk_alloc ?_ _));refine blk_put (cs:=#[.int .i64 ((rd_T25 x3_3 x6_3).f0),.int .i64 ((rd_T25 x3_3 x6_3).f1),.slice none 0 0]) ?_ 2 _ rfl;(with_reducible repeat (first | refine blk_drewN ?_ _ | refine blk_drew ?_ | refine blk_alloc ?_ _));refine blk_put (cs:=#[.int .i64 ((rd_T25 x3_3 x6_3).f0),.int .i64 0,.slice none 0 0]) ?_ 1 _ rfl;(with_reducible repeat (first | refine blk_drewN ?_ _ | refine blk_drew ?_ | refine blk_alloc ?_ _));refine blk_put (cs:=#[.int .i64 0,.int .i64 0,.slice none 0 0]) ?_ 0 _ rfl;(with_reducible repeat (first | refine blk_drewN ?_ _ | refine blk_drew ?_ | refine blk_alloc ?_ _));exact BK474.out))⟩;have n3_:Aside0 (Below w.heap.size w w21):=⟨(by rw [hw];exact (by repeat (first | (with_reducible first | exact HB.out | apply below_alloc | apply pw_below_drewN | apply below_drew1 | refine below_set ?_ GE474.out) | exact HB.out)))⟩;clear hw;clear HO_3;clear HL473_2;clear BK474;clear HB;have HO_3:=n0_;have HL473_2:=n1_;have BK474:=n2_;have HB:=n3_;clear n0_ n1_ n2_ n3_;clear HR473_2;have HR473_2:=Aside0.mk (Kd.V_reads' HL473_2.out).2.2) | ((with_reducible refine gate_dst (N:=42) rfl ?_);refine Kd.N_lit k25 _ 25 ?hg (N':=42) ?hd (xs:=([]:List (S25))) (inner:=[]) (ok:=(fun k_=>(P0_ k_ ∨ w.heap.size ≤ k_)∧some k_ ≠ (.slice (some ad473) x3_3.length co18:Value).ownBlock∧k_ ≠ gb474)) (okp:=(fun k_=>(P0_ k_ ∨ w.heap.size ≤ k_)∧some k_ ≠ (.slice (some ad473) x3_3.length co18:Value).ownBlock∧k_ ≠ gb474)) ?hr ?hp (fun _ hk=>hk) ((show ∀ k_,w21.heap.size ≤ k_ → (fun k_=>(P0_ k_ ∨ w.heap.size ≤ k_)∧some k_ ≠ (.slice (some ad473) x3_3.length co18:Value).ownBlock∧k_ ≠ gb474) k_ from fun k_ hk=>⟨(.inr (Nat.le_trans (below_size (by repeat (first | (with_reducible first | exact HB.out | apply below_alloc | apply pw_below_drewN | apply below_drew1 | refine below_set ?_ GE474.out) | exact HB.out))) hk)),Kd.fresh' (Kd.N_lt (by (with_reducible repeat (first | apply Kd.N_alloc | apply Kd.N_drewN | apply Kd.N_drew));exact HO_3.out)) k_ hk,Kd.freshB (g:=gb474) (o:=.cells #[.int .i64 ((rd_T25 x3_3 x6_3).f0),.int .i64 ((rd_T25 x3_3 x6_3).f1),.slice A473_2 ((rd_T25 x3_3 x6_3).f2).length c473_2] 25 (0,0)) (by (with_reducible repeat (first | refine blk_drewN ?_ _ | refine blk_drew ?_ | refine blk_alloc ?_ _));exact BK474.out) k_ hk⟩) _ (Nat.le_refl _)) (Below.refl _ _) (Nat.le_refl _) (by simp) ?_;(case hd=>rfl);(case hg=>rfl);(case hr=>first | (go_simp;done) | (go_simp;rfl));(case hp=>exact (Reps.none _ _));intro v476 w22 ho23 hb hg_ hnew_;clear hg_ hnew_;(first | rw [← Ny475.out] at ho23 | (simp only [Int.reduceToNat] at ho23;rw [← Ny475.out] at ho23));have n0_:=Aside0.mk (Kd.N_elder' (by (with_reducible repeat (first | apply Kd.N_alloc | apply Kd.N_drewN | apply Kd.N_drew));exact HO_3.out) (Kd.N_base ho23) hb);have n1_:=Aside0.mk (Kd.V_elder' (by (with_reducible repeat (first | apply Kd.V_alloc | apply Kd.V_drewN | apply Kd.V_drew));exact HL473_2.out) (Kd.N_base ho23) hb);have n2_:=Aside0.mk (Kd.N_lower ho23 (below_size (by repeat (first | (with_reducible first | exact HB.out | apply below_alloc | apply pw_below_drewN | apply below_drew1 | refine below_set ?_ GE474.out) | exact HB.out))));have n3_:=Aside0.mk (Kd.C_below (by repeat (first | (with_reducible exact HR473_2.out) | (with_reducible refine Kd.C_alloc ?_ _) | (with_reducible refine Kd.C_drewN ?_ _) | (with_reducible refine Kd.C_drew ?_) | exact HR473_2.out)) hb);have n4_:=Aside0.mk (blk_below (g:=gb474) (o:=.cells #[.int .i64 ((rd_T25 x3_3 x6_3).f0),.int .i64 ((rd_T25 x3_3 x6_3).f1),.slice A473_2 ((rd_T25 x3_3 x6_3).f2).length c473_2] 25 (0,0)) (by (with_reducible repeat (first | refine blk_drewN ?_ _ | refine blk_drew ?_ | refine blk_alloc ?_ _));exact BK474.out) hb);have n5_:=Aside0.mk (below_step (by repeat (first | (with_reducible first | exact HB.out | apply below_alloc | apply pw_below_drewN | apply below_drew1 | refine below_set ?_ GE474.out) | exact HB.out)) hb);clear HO_3;clear HL473_2;clear HR473_2;clear BK474;clear HB;have HO_3:=n0_;have HL473_2:=n1_;have HO477:=n2_;have HR473_2:=n3_;have BK474:=n4_;have HB:=n5_;clear n0_ n1_ n2_ n3_ n4_ n5_;clear hb ho23;have hcz24_0:w22.cell? ⟨gb474,0,none⟩ = some (.int .i64 ((rd_T25 x3_3 x6_3).f0)):=(blk_cell BK474.out 0).trans rfl;have hcz24_1:w22.cell? ⟨gb474,1,none⟩ = some (.int .i64 ((rd_T25 x3_3 x6_3).f1)):=(blk_cell BK474.out 1).trans rfl;have hcz24_2:w22.cell? ⟨gb474,2,none⟩ = some (.slice A473_2 ((rd_T25 x3_3 x6_3).f2).length c473_2):=(blk_cell BK474.out 2).trans rfl;have hfz24_0:=blk_frozen BK474.out 0;have hfz24_1:=blk_frozen BK474.out 1;have hfz24_2:=blk_frozen BK474.out 2))
           (try simp only [Act.put,List.setIfInBounds_toArray,List.set_cons_zero,List.set_cons_succ])
           go_cut [8] (fun v8 wc=>∃ (kq:Nat) (x8_16:List (S25)),Aside0 (spec_l20Apart.j3 kq x3_3 x5_3 x6_3 x8_16 ((rd_T25 x3_3 x6_3).f0) ((rd_T25 x3_3 x6_3).f1) ((rd_T25 x3_3 x6_3).f2) = some r)∧Aside0 (kq ≤ k3)∧Aside0 (Kd.N k25 25 wc w.heap.size (fun k_=>(P0_ k_ ∨ w.heap.size ≤ k_)∧k_ ≠ gb474) (.slice (some ad473) x3_3.length co18) x3_3)∧Aside0 (Kd.V k25 25 wc w.heap.size (fun k_=>(P0_ k_ ∨ w.heap.size ≤ k_)∧some k_ ≠ ((.slice (some ad473) x3_3.length co18):Value).ownBlock∧k_ ≠ gb474) v8 x8_16)∧Aside0 (Kd.V k25 25 wc w.heap.size (fun k_=>(P0_ k_ ∨ w.heap.size ≤ k_)∧some k_ ≠ ((.slice (some ad473) x3_3.length co18):Value).ownBlock∧k_ ≠ gb474) (.slice A473_2 ((rd_T25 x3_3 x6_3).f2).length c473_2) ((rd_T25 x3_3 x6_3).f2))∧Aside0 (wc.heap[gb474]? = some (.cells #[.int .i64 ((rd_T25 x3_3 x6_3).f0),.int .i64 ((rd_T25 x3_3 x6_3).f1),(.slice A473_2 ((rd_T25 x3_3 x6_3).f2).length c473_2)] 25 (0,0)))∧Aside0 (Kd.C k25 wc A473_2 ((rd_T25 x3_3 x6_3).f2).length ((rd_T25 x3_3 x6_3).f2))∧Aside0 (Below w.heap.size w wc))
           case first =>
            have H:=HC17.out
            clear HC17
            by_cases c25:((rd_T25 x3_3 x6_3).f0) = 1
            ·rw [if_pos c25] at H
             have c25b0:(((rd_T25 x3_3 x6_3).f0) == 1) = true:=beq_iff_eq.mpr c25
             have c25b1:(((rd_T25 x3_3 x6_3).f0) != 1) = false:=bne_eq_false_iff_eq.mpr c25
             clear c25
             (first | rw [c25b0] | (simp only [i64_w,i32_w];rw [c25b0]) | skip)
             have H':=Aside0.mk H
             clear H
             have hcz26_0:w22.cell? ⟨gb474,0,none⟩ = some (.int .i64 ((rd_T25 x3_3 x6_3).f0)):=(blk_cell BK474.out 0).trans rfl
             have hcz26_1:w22.cell? ⟨gb474,1,none⟩ = some (.int .i64 ((rd_T25 x3_3 x6_3).f1)):=(blk_cell BK474.out 1).trans rfl
             have hcz26_2:w22.cell? ⟨gb474,2,none⟩ = some (.slice A473_2 ((rd_T25 x3_3 x6_3).f2).length c473_2):=(blk_cell BK474.out 2).trans rfl
             have hfz26_0:=blk_frozen BK474.out 0
             have hfz26_1:=blk_frozen BK474.out 1
             have hfz26_2:=blk_frozen BK474.out 2
             go_wp2
             go_meet
             case rel=>exact ⟨_,((rd_T25 x3_3 x6_3).f2),H',⟨by have:=HK1.out;have:=HK2.out;have:=HK3.out;first | omega | exact Nat.le_refl _⟩,⟨by (with_reducible repeat (first | apply Kd.N_alloc | apply Kd.N_drewN | apply Kd.N_drew));exact Kd.N_mono HO_3.out (fun _ hk=>⟨hk.1.1,hk.1.2⟩)⟩,⟨by (with_reducible repeat (first | apply Kd.V_alloc | apply Kd.V_drewN | apply Kd.V_drew));exact Kd.V_mono HL473_2.out (fun _ hk=>⟨hk.1.1,⟨hk.1.2.1,hk.1.2.2⟩⟩)⟩,⟨by (with_reducible repeat (first | apply Kd.V_alloc | apply Kd.V_drewN | apply Kd.V_drew));exact Kd.V_mono HL473_2.out (fun _ hk=>⟨hk.1.1,⟨hk.1.2.1,hk.1.2.2⟩⟩)⟩,⟨by (with_reducible repeat (first | refine blk_drewN ?_ _ | refine blk_drew ?_ | refine blk_alloc ?_ _));exact BK474.out⟩,⟨by repeat (first | (with_reducible exact HR473_2.out) | (with_reducible refine Kd.C_alloc ?_ _) | (with_reducible refine Kd.C_drewN ?_ _) | (with_reducible refine Kd.C_drew ?_) | exact HR473_2.out)⟩,⟨by repeat (first | (with_reducible first | exact HB.out | apply below_alloc | apply pw_below_drewN | apply below_drew1 | refine below_set ?_ GE474.out) | exact HB.out)⟩⟩
            ·rw [if_neg c25] at H
             have c25b0:(((rd_T25 x3_3 x6_3).f0) == 1) = false:=beq_eq_false_iff_ne.mpr c25
             have c25b1:(((rd_T25 x3_3 x6_3).f0) != 1) = true:=bne_iff_ne.mpr c25
             (first | rw [c25b0] | (simp only [i64_w,i32_w];rw [c25b0]) | skip)
             have H':=Aside0.mk H
             clear H
             go_wp2
             go_meet
             case rel=>exact ⟨_,(y475),H',⟨by have:=HK1.out;have:=HK2.out;have:=HK3.out;first | omega | exact Nat.le_refl _⟩,⟨by (with_reducible repeat (first | apply Kd.N_alloc | apply Kd.N_drewN | apply Kd.N_drew));exact Kd.N_mono HO_3.out (fun _ hk=>⟨hk.1.1,hk.1.2⟩)⟩,⟨Kd.N_V (by (with_reducible repeat (first | apply Kd.N_alloc | apply Kd.N_drewN | apply Kd.N_drew));exact HO477.out)⟩,⟨by (with_reducible repeat (first | apply Kd.V_alloc | apply Kd.V_drewN | apply Kd.V_drew));exact Kd.V_mono HL473_2.out (fun _ hk=>⟨hk.1.1,⟨hk.1.2.1,hk.1.2.2⟩⟩)⟩,⟨by (with_reducible repeat (first | refine blk_drewN ?_ _ | refine blk_drew ?_ | refine blk_alloc ?_ _));exact BK474.out⟩,⟨by repeat (first | (with_reducible exact HR473_2.out) | (with_reducible refine Kd.C_alloc ?_ _) | (with_reducible refine Kd.C_drewN ?_ _) | (with_reducible refine Kd.C_drew ?_) | exact HR473_2.out)⟩,⟨by repeat (first | (with_reducible first | exact HB.out | apply below_alloc | apply pw_below_drewN | apply below_drew1 | refine below_set ?_ GE474.out) | exact HB.out)⟩⟩
           case rest =>
            clear HC17
            try clear c1
            try clear c2
            try clear p2
            try clear c4
            try clear c4b0
            try clear p4
            try clear q4
            try clear hx4
            try clear c5
            try clear c5b0
            try clear c6
            try clear p6
            try clear c7
            try clear c10
            try clear c14
            try clear c15
            try clear c15b0
            try clear c16
            try clear c16b0
            try clear c25
            try clear c25b0
            try clear c25b1
            try clear hcz20_0
            try clear hcz20_1
            try clear hcz20_2
            try clear hcz24_0
            try clear hcz24_1
            try clear hcz24_2
            try clear hcz26_0
            try clear hcz26_1
            try clear hcz26_2
            try clear hfz20_0
            try clear hfz20_1
            try clear hfz20_2
            try clear hfz24_0
            try clear hfz24_1
            try clear hfz24_2
            try clear hfz26_0
            try clear hfz26_1
            try clear hfz26_2
            try clear hx467_0
            try clear hx467_1
            try clear hx467_2
            try clear hx469_0
            try clear hx469_1
            try clear hx469_2
            try clear hx473_0
            try clear hx473_1
            try clear hx473_2
            try clear p2
            try clear p4
            try clear p467
            try clear p469
            try clear p473
            try clear p6
            try clear q4
            try clear q467
            try clear q469
            try clear q473
            obtain ⟨kq,x8_16,HA,HJ16,HO_3,HO_8,HO_475002,BK474,HR473_2,HB⟩:=hcut
            cases kq with
            | zero=>exact absurd HA.out (by simp [spec_l20Apart.j3])
            | succ kj16 =>
             have H:=HA.out
             clear HA
             simp only [spec_l20Apart.j3] at H
             have HC27:=Aside0.mk H
             clear H
             go_upto_region 17 with (fail)
             go_cut [58] (fun v58 wc=>∃ (kq:Nat) (x58_26:Bool),v58 = .bool x58_26∧Aside0 (spec_l20Apart.j4 kq x3_3 x5_3 x6_3 x8_16 x58_26 ((rd_T25 x3_3 x6_3).f0) ((rd_T25 x3_3 x6_3).f1) ((rd_T25 x3_3 x6_3).f2) = some r)∧Aside0 (kq ≤ kj16)∧Aside0 (Kd.N k25 25 wc w.heap.size (fun k_=>(P0_ k_ ∨ w.heap.size ≤ k_)∧k_ ≠ gb474) (.slice (some ad473) x3_3.length co18) x3_3)∧Aside0 (Kd.V k25 25 wc w.heap.size (fun k_=>(P0_ k_ ∨ w.heap.size ≤ k_)∧some k_ ≠ ((.slice (some ad473) x3_3.length co18):Value).ownBlock∧k_ ≠ gb474) u8 x8_16)∧Aside0 (Kd.V k25 25 wc w.heap.size (fun k_=>(P0_ k_ ∨ w.heap.size ≤ k_)∧some k_ ≠ ((.slice (some ad473) x3_3.length co18):Value).ownBlock∧k_ ≠ gb474) (.slice A473_2 ((rd_T25 x3_3 x6_3).f2).length c473_2) ((rd_T25 x3_3 x6_3).f2))∧Aside0 (wc.heap[gb474]? = some (.cells #[.int .i64 ((rd_T25 x3_3 x6_3).f0),.int .i64 ((rd_T25 x3_3 x6_3).f1),(.slice A473_2 ((rd_T25 x3_3 x6_3).f2).length c473_2)] 25 (0,0)))∧Aside0 (Kd.C k25 wc A473_2 ((rd_T25 x3_3 x6_3).f2).length ((rd_T25 x3_3 x6_3).f2))∧Aside0 (Below w.heap.size w wc))
             case first =>
              have H:=HC27.out
              clear HC27
              by_cases c28:((rd_T25 x3_3 x6_3).f0) = 2
              ·rw [if_pos c28] at H
               have c28b0:(((rd_T25 x3_3 x6_3).f0) == 2) = true:=beq_iff_eq.mpr c28
               have c28b1:(((rd_T25 x3_3 x6_3).f0) != 2) = false:=bne_eq_false_iff_eq.mpr c28
               clear c28
               (first | rw [c28b0] | (simp only [i64_w,i32_w];rw [c28b0]) | skip)
               by_cases c29:0 < (((rd_T25 x3_3 x6_3).f2).length:Int)
               ·rw [if_pos c29] at H
                have c29b0:decide (0 < (((rd_T25 x3_3 x6_3).f2).length:Int)) = true:=decide_eq_true c29
                have c29b1:decide (0 < ((rd_T25 x3_3 x6_3).f2).length) = true:=decide_eq_true (by omega)
                clear c29
                replace H:=Option.bind_eq_some_iff.mp H
                obtain ⟨t479,A300,H⟩:=H
                replace H:(spec_l20Apart.j4 kj16 x3_3 x5_3 x6_3 x8_16 t479 ((rd_T25 x3_3 x6_3).f0) ((rd_T25 x3_3 x6_3).f1) ((rd_T25 x3_3 x6_3).f2)) = some r:=H
                have A30:=Aside0.mk A300
                clear A300
                have H':=Aside0.mk H
                clear H
                have hcz31_0:wc.cell? ⟨gb474,0,none⟩ = some (.int .i64 ((rd_T25 x3_3 x6_3).f0)):=(blk_cell BK474.out 0).trans rfl
                have hcz31_1:wc.cell? ⟨gb474,1,none⟩ = some (.int .i64 ((rd_T25 x3_3 x6_3).f1)):=(blk_cell BK474.out 1).trans rfl
                have hcz31_2:wc.cell? ⟨gb474,2,none⟩ = some (.slice A473_2 ((rd_T25 x3_3 x6_3).f2).length c473_2):=(blk_cell BK474.out 2).trans rfl
                have hfz31_0:=blk_frozen BK474.out 0
                have hfz31_1:=blk_frozen BK474.out 1
                have hfz31_2:=blk_frozen BK474.out 2
                have p478:0 ≤ (0:Int):=(by omega)
                have q478:0 < (((rd_T25 x3_3 x6_3).f2).length:Int):=of_decide_eq_true (by first | (with_reducible assumption) | assumption)
                obtain ⟨ad478,A478_2,c478_2,e478,hx478_0,hx478_1,hx478_2,hl478_2,hi478_2⟩:=at_T25 (Kd.V_reads' HO_475002.out).2.2 0 p478 q478
                cases e478
                obtain ⟨ce478,hce478,hMe478,hcc478⟩:=Kd.V_get HO_475002.out z25 0 p478 (by first | exact q478 | exact of_decide_eq_true (by first | (with_reducible assumption) | assumption) | (have e_:=(Kd.V_reads' HO_475002.out).1;omega))
                obtain ⟨ua478_2,uc478_2,rfl,ul478_2,ge478_2⟩:=k25_openF hMe478
                have hv478_2:=hcc478 2 _ rfl
                rw [add_field _ _ 2 (by omega)] at hv478_2
                replace hv478_2:=Option.some.inj (hv478_2.symm.trans hx478_2)
                injection hv478_2 with hva_ hvn_ hvc_
                rw [hva_] at ge478_2
                rw [hvc_] at ul478_2
                have HL478_2:=Aside0.mk (show Kd.V k25 25 _ w.heap.size _ _ ((rd_T25 ((rd_T25 x3_3 x6_3).f2) 0).f2) from Kd.V_mk ul478_2 ge478_2)
                clear hva_ hvn_ hvc_ ge478_2 ul478_2
                clear hcc478 hce478
                have qi478:(0 < ((rd_T25 x3_3 x6_3).f2).length) = True:=eq_true (by omega)
                (try rw [show ((0:Int)).toNat = 0 from rfl] at hx478_0)
                (try rw [show 0 * 3 = 0 from rfl] at hx478_0)
                (try rw [Addr.add_zero'] at hx478_0)
                (try rw [show ((0:Int)).toNat = 0 from rfl] at hx478_1)
                (try rw [show 0 * 3 = 0 from rfl] at hx478_1)
                (try rw [Addr.add_zero'] at hx478_1)
                (try rw [show ((0:Int)).toNat = 0 from rfl] at hx478_2)
                (try rw [show 0 * 3 = 0 from rfl] at hx478_2)
                (try rw [Addr.add_zero'] at hx478_2)
                have HR478_2:=Aside0.mk hi478_2
                have HC478_2:=Aside0.mk hl478_2
                clear hi478_2 hl478_2
                replace p478:=eq_true p478
                replace q478:=eq_true q478
                go_wp2_with (first | (go_at_call 52;(with_reducible refine (spec_l20Made.calls kj16 _ _ x3_3 ((rd_T25 ((rd_T25 x3_3 x6_3).f2) 0).f0) ((rd_T25 ((rd_T25 x3_3 x6_3).f2) 0).f1) _ _ ((rd_T25 ((rd_T25 x3_3 x6_3).f2) 0).f2) t479 _ ?side1 ?side2 ?side3 ?side4 A30.out).mono ?_);(case side1=>repeat (first | exact (Kd.N_reads' HO_3.out).2.2 | (with_reducible refine Kd.C_alloc ?_ _) | (with_reducible refine Kd.C_drewN ?_ _) | (with_reducible refine Kd.C_drew ?_)));(case side2=>exact (Kd.N_reads' HO_3.out).2.1);(case side3=>repeat (first | exact (by repeat (first | (with_reducible exact HR478_2.out) | (with_reducible refine Kd.C_alloc ?_ _) | (with_reducible refine Kd.C_drewN ?_ _) | (with_reducible refine Kd.C_drew ?_) | exact HR478_2.out)) | (with_reducible refine Kd.C_alloc ?_ _) | (with_reducible refine Kd.C_drewN ?_ _) | (with_reducible refine Kd.C_drew ?_)));(case side4=>exact HC478_2.out);rintro e w32 ⟨rfl,hb⟩;have n0_:=Aside0.mk (Kd.N_below (by (with_reducible repeat (first | apply Kd.N_alloc | apply Kd.N_drewN | apply Kd.N_drew));exact HO_3.out) hb);have n1_:=Aside0.mk (Kd.V_below (by (with_reducible repeat (first | apply Kd.V_alloc | apply Kd.V_drewN | apply Kd.V_drew));exact HO_8.out) hb);have n2_:=Aside0.mk (Kd.V_below (by (with_reducible repeat (first | apply Kd.V_alloc | apply Kd.V_drewN | apply Kd.V_drew));exact HO_475002.out) hb);have n3_:=Aside0.mk (Kd.V_below (by (with_reducible repeat (first | apply Kd.V_alloc | apply Kd.V_drewN | apply Kd.V_drew));exact HL478_2.out) hb);have n4_:=Aside0.mk (blk_below (g:=gb474) (o:=.cells #[.int .i64 ((rd_T25 x3_3 x6_3).f0),.int .i64 ((rd_T25 x3_3 x6_3).f1),.slice (some ad478) ((rd_T25 x3_3 x6_3).f2).length c473_2] 25 (0,0)) (by (with_reducible repeat (first | refine blk_drewN ?_ _ | refine blk_drew ?_ | refine blk_alloc ?_ _));exact BK474.out) hb);have n5_:=Aside0.mk (Kd.C_below (by repeat (first | (with_reducible exact HR473_2.out) | (with_reducible refine Kd.C_alloc ?_ _) | (with_reducible refine Kd.C_drewN ?_ _) | (with_reducible refine Kd.C_drew ?_) | exact HR473_2.out)) hb);have n6_:=Aside0.mk (Kd.C_below (by repeat (first | (with_reducible exact HR478_2.out) | (with_reducible refine Kd.C_alloc ?_ _) | (with_reducible refine Kd.C_drewN ?_ _) | (with_reducible refine Kd.C_drew ?_) | exact HR478_2.out)) hb);have n7_:=Aside0.mk (below_step (by repeat (first | (with_reducible first | exact HB.out | apply below_alloc | apply pw_below_drewN | apply below_drew1 | refine below_set ?_ GE474.out) | exact HB.out)) hb);clear HO_3;clear HO_8;clear HO_475002;clear HL478_2;clear BK474;clear HR473_2;clear HR478_2;clear HB;have HO_3:=n0_;have HO_8:=n1_;have HO_475002:=n2_;have HL478_2:=n3_;have BK474:=n4_;have HR473_2:=n5_;have HR478_2:=n6_;have HB:=n7_;clear n0_ n1_ n2_ n3_ n4_ n5_ n6_ n7_;(try clear hb);(try clear hb2);(try clear hk);(try clear hi)))
                go_meet
                case rel=>exact ⟨_,(t479),(by first | rfl | (simp;done) | (simp [*];done)),H',⟨by have:=HK1.out;have:=HK2.out;have:=HK3.out;have:=HJ16.out;first | omega | exact Nat.le_refl _⟩,⟨by (with_reducible repeat (first | apply Kd.N_alloc | apply Kd.N_drewN | apply Kd.N_drew));exact HO_3.out⟩,⟨by (with_reducible repeat (first | apply Kd.V_alloc | apply Kd.V_drewN | apply Kd.V_drew));exact HO_8.out⟩,⟨by (with_reducible repeat (first | apply Kd.V_alloc | apply Kd.V_drewN | apply Kd.V_drew));exact HO_475002.out⟩,⟨by (with_reducible repeat (first | refine blk_drewN ?_ _ | refine blk_drew ?_ | refine blk_alloc ?_ _));exact BK474.out⟩,⟨by repeat (first | (with_reducible exact HR473_2.out) | (with_reducible refine Kd.C_alloc ?_ _) | (with_reducible refine Kd.C_drewN ?_ _) | (with_reducible refine Kd.C_drew ?_) | exact HR473_2.out)⟩,⟨by repeat (first | (with_reducible first | exact HB.out | apply below_alloc | apply pw_below_drewN | apply below_drew1 | refine below_set ?_ GE474.out) | exact HB.out)⟩⟩
               ·rw [if_neg c29] at H
                exact absurd H (by simp)
              ·rw [if_neg c28] at H
               have c28b0:(((rd_T25 x3_3 x6_3).f0) == 2) = false:=beq_eq_false_iff_ne.mpr c28
               have c28b1:(((rd_T25 x3_3 x6_3).f0) != 2) = true:=bne_iff_ne.mpr c28
               (first | rw [c28b0] | (simp only [i64_w,i32_w];rw [c28b0]) | skip)
               have H':=Aside0.mk H
               clear H
               have hcz33_0:wc.cell? ⟨gb474,0,none⟩ = some (.int .i64 ((rd_T25 x3_3 x6_3).f0)):=(blk_cell BK474.out 0).trans rfl
               have hcz33_1:wc.cell? ⟨gb474,1,none⟩ = some (.int .i64 ((rd_T25 x3_3 x6_3).f1)):=(blk_cell BK474.out 1).trans rfl
               have hcz33_2:wc.cell? ⟨gb474,2,none⟩ = some (.slice A473_2 ((rd_T25 x3_3 x6_3).f2).length c473_2):=(blk_cell BK474.out 2).trans rfl
               have hfz33_0:=blk_frozen BK474.out 0
               have hfz33_1:=blk_frozen BK474.out 1
               have hfz33_2:=blk_frozen BK474.out 2
               go_wp2
               go_meet
               case rel=>exact ⟨_,(false),(by first | rfl | (simp;done) | (simp [*];done)),H',⟨by have:=HK1.out;have:=HK2.out;have:=HK3.out;have:=HJ16.out;first | omega | exact Nat.le_refl _⟩,⟨by (with_reducible repeat (first | apply Kd.N_alloc | apply Kd.N_drewN | apply Kd.N_drew));exact HO_3.out⟩,⟨by (with_reducible repeat (first | apply Kd.V_alloc | apply Kd.V_drewN | apply Kd.V_drew));exact HO_8.out⟩,⟨by (with_reducible repeat (first | apply Kd.V_alloc | apply Kd.V_drewN | apply Kd.V_drew));exact HO_475002.out⟩,⟨by (with_reducible repeat (first | refine blk_drewN ?_ _ | refine blk_drew ?_ | refine blk_alloc ?_ _));exact BK474.out⟩,⟨by repeat (first | (with_reducible exact HR473_2.out) | (with_reducible refine Kd.C_alloc ?_ _) | (with_reducible refine Kd.C_drewN ?_ _) | (with_reducible refine Kd.C_drew ?_) | exact HR473_2.out)⟩,⟨by repeat (first | (with_reducible first | exact HB.out | apply below_alloc | apply pw_below_drewN | apply below_drew1 | refine below_set ?_ GE474.out) | exact HB.out)⟩⟩
             case rest =>
              clear HC27
              try clear c1
              try clear c2
              try clear p2
              try clear c4
              try clear c4b0
              try clear p4
              try clear q4
              try clear hx4
              try clear qi4
              try clear c5
              try clear c5b0
              try clear c6
              try clear p6
              try clear c7
              try clear c10
              try clear c14
              try clear c15
              try clear c15b0
              try clear c16
              try clear c16b0
              try clear c25
              try clear c25b0
              try clear c25b1
              try clear c28
              try clear c28b0
              try clear c28b1
              try clear c29
              try clear c29b0
              try clear c29b1
              try clear hcz20_0
              try clear hcz20_1
              try clear hcz20_2
              try clear hcz24_0
              try clear hcz24_1
              try clear hcz24_2
              try clear hcz26_0
              try clear hcz26_1
              try clear hcz26_2
              try clear hcz31_0
              try clear hcz31_1
              try clear hcz31_2
              try clear hcz33_0
              try clear hcz33_1
              try clear hcz33_2
              try clear hfz20_0
              try clear hfz20_1
              try clear hfz20_2
              try clear hfz24_0
              try clear hfz24_1
              try clear hfz24_2
              try clear hfz26_0
              try clear hfz26_1
              try clear hfz26_2
              try clear hfz31_0
              try clear hfz31_1
              try clear hfz31_2
              try clear hfz33_0
              try clear hfz33_1
              try clear hfz33_2
              try clear hx467_0
              try clear hx467_1
              try clear hx467_2
              try clear hx469_0
              try clear hx469_1
              try clear hx469_2
              try clear hx473_0
              try clear hx473_1
              try clear hx473_2
              try clear hx478_0
              try clear hx478_1
              try clear hx478_2
              try clear p2
              try clear p4
              try clear p467
              try clear p469
              try clear p473
              try clear p478
              try clear p6
              try clear q4
              try clear q467
              try clear q469
              try clear q473
              try clear q478
              obtain ⟨kq,x58_26,rfl,HA,HJ26,HO_3,HO_8,HO_475002,BK474,HR473_2,HB⟩:=hcut
              cases kq with
              | zero=>exact absurd HA.out (by simp [spec_l20Apart.j4])
              | succ kj26 =>
               have H:=HA.out
               clear HA
               simp only [spec_l20Apart.j4] at H
               have HC34:=Aside0.mk H
               clear H
               go_upto_if 58 with (fail)
               go_cut [8] (fun v8 wc=>∃ (kq:Nat) (x8_33:List (S25)),Aside0 (spec_l20Apart.j5 kq x3_3 x5_3 x6_3 x8_33 = some r)∧Aside0 (kq ≤ kj26)∧Aside0 (Kd.N k25 25 wc w.heap.size (fun k_=>(P0_ k_ ∨ w.heap.size ≤ k_)∧k_ ≠ gb474) (.slice (some ad473) x3_3.length co18) x3_3)∧Aside0 (Kd.V k25 25 wc w.heap.size (fun k_=>(P0_ k_ ∨ w.heap.size ≤ k_)∧some k_ ≠ ((.slice (some ad473) x3_3.length co18):Value).ownBlock∧k_ ≠ gb474) v8 x8_33)∧Aside0 (Kd.V k25 25 wc w.heap.size (fun k_=>(P0_ k_ ∨ w.heap.size ≤ k_)∧some k_ ≠ ((.slice (some ad473) x3_3.length co18):Value).ownBlock∧k_ ≠ gb474) (.slice A473_2 ((rd_T25 x3_3 x6_3).f2).length c473_2) ((rd_T25 x3_3 x6_3).f2))∧Aside0 (wc.heap[gb474]? = some (.cells #[.int .i64 ((rd_T25 x3_3 x6_3).f0),.int .i64 ((rd_T25 x3_3 x6_3).f1),(.slice A473_2 ((rd_T25 x3_3 x6_3).f2).length c473_2)] 25 (0,0)))∧Aside0 (Kd.C k25 wc A473_2 ((rd_T25 x3_3 x6_3).f2).length ((rd_T25 x3_3 x6_3).f2))∧Aside0 (Below w.heap.size w wc))
               case first =>
                have H:=HC34.out
                clear HC34
                by_cases c35:x58_26 = true
                ·subst c35
                 have H1:(if 1 ≤ (((rd_T25 x3_3 x6_3).f2).length:Int) then (spec_l20Apart.j5 kj26 x3_3 x5_3 x6_3 (((rd_T25 x3_3 x6_3).f2).drop 1)) else (none)) = some r:=by rw [if_pos rfl] at H;exact H
                 clear H
                 have H:=H1
                 clear H1
                 by_cases c36:1 ≤ (((rd_T25 x3_3 x6_3).f2).length:Int)
                 ·rw [if_pos c36] at H
                  have c36b0:=eq_true c36
                  have c36b1:decide (1 ≤ (((rd_T25 x3_3 x6_3).f2).length:Int)) = true:=decide_eq_true c36
                  clear c36
                  obtain ⟨y480,hy480⟩:∃ y_:List (S25),y_ = (((rd_T25 x3_3 x6_3).f2).drop 1):=⟨_,rfl⟩
                  replace H:(spec_l20Apart.j5 kj26 x3_3 x5_3 x6_3 y480) = some r:=by first | (rw [hy480];with_reducible exact H) | (have H2_:=(Option.bind_some _ _).symm.trans H;rw [hy480];with_reducible exact H2_) | (have H2_:=(Option.bind_some _ _).symm.trans H;with_reducible exact H2_) | with_reducible exact H | (rw [hy480];exact H) | exact H
                  have Ny480:=Aside0.mk hy480
                  clear hy480
                  have H':=Aside0.mk H
                  clear H
                  have hcz37_0:wc.cell? ⟨gb474,0,none⟩ = some (.int .i64 ((rd_T25 x3_3 x6_3).f0)):=(blk_cell BK474.out 0).trans rfl
                  have hcz37_1:wc.cell? ⟨gb474,1,none⟩ = some (.int .i64 ((rd_T25 x3_3 x6_3).f1)):=(blk_cell BK474.out 1).trans rfl
                  have hcz37_2:wc.cell? ⟨gb474,2,none⟩ = some (.slice A473_2 ((rd_T25 x3_3 x6_3).f2).length c473_2):=(blk_cell BK474.out 2).trans rfl
                  have hfz37_0:=blk_frozen BK474.out 0
                  have hfz37_1:=blk_frozen BK474.out 1
                  have hfz37_2:=blk_frozen BK474.out 2
                  have q38:(1:Int) ≤ ((((rd_T25 x3_3 x6_3).f2).length:Int):Int):=of_decide_eq_true (by first | (with_reducible assumption) | assumption)
                  obtain ⟨i038,hi038,_,hsz38,_⟩:=info_parts info25
                  have hroom38:((rd_T25 x3_3 x6_3).f2).length ≤ c473_2:=(Kd.V_reads' HO_475002.out).2.1
                  have hC38:Kd.F k25 _ _ A473_2 ((rd_T25 x3_3 x6_3).f2).length ((rd_T25 x3_3 x6_3).f2):=(Kd.V_at (base:=w.heap.size) HO_475002.out).2.2
                  have hcut38:=cut_from (P:=Tryd.prog) 23 25 .i64 Tryd.underlying23 hi038 3 hsz38 A473_2 ((rd_T25 x3_3 x6_3).f2).length c473_2 1 (by omega) q38
                  have hr38:=Kd.F_cut (m:=(1:Int).toNat) (c:=c473_2) hC38 (by omega) hroom38
                  obtain ⟨A38,hA38⟩:∃ A1,A1 = (if c473_2 = (1:Int).toNat then A473_2 else (A473_2:Option Addr).map (·.add ((1:Int).toNat * 3))):=⟨_,rfl⟩
                  obtain ⟨c38,hc38⟩:∃ c1,c1 = c473_2 - (1:Int).toNat:=⟨_,rfl⟩
                  have hy38:y480.length = ((rd_T25 x3_3 x6_3).f2).length - (1:Int).toNat:=(by rw [Ny480.out,List.length_drop] <;> omega)
                  rw [show (((rd_T25 x3_3 x6_3).f2)).drop (1:Int).toNat = y480 from Ny480.out.symm] at hr38
                  replace hr38:Kd.F k25 _ _ A38 y480.length y480:=(by rw [hA38];exact hr38)
                  rw [← hy38,← hA38,← hc38] at hcut38
                  have HO484:=Aside0.mk (show Kd.V k25 25 _ w.heap.size _ (.slice A38 y480.length c38) y480 from Kd.V_mk (by rw [hy38,hc38];exact Nat.sub_le_sub_right hroom38 _) hr38)
                  have HC484:=Aside0.mk (show y480.length ≤ c38 from by rw [hy38,hc38];exact Nat.sub_le_sub_right hroom38 _)
                  clear hr38 hC38 hroom38 hi038 hsz38 hc38
                  have KY38:=Aside0.mk hy38
                  have KA38:=Aside0.mk hA38
                  clear hy38 hA38
                  replace q38:=eq_true q38
                  go_wp2
                  go_meet
                  case rel=>exact ⟨_,(y480),H',⟨by have:=HK1.out;have:=HK2.out;have:=HK3.out;have:=HJ16.out;have:=HJ26.out;first | omega | exact Nat.le_refl _⟩,⟨by (with_reducible repeat (first | apply Kd.N_alloc | apply Kd.N_drewN | apply Kd.N_drew));exact HO_3.out⟩,⟨by (with_reducible repeat (first | apply Kd.V_alloc | apply Kd.V_drewN | apply Kd.V_drew));exact HO484.out⟩,⟨by (with_reducible repeat (first | apply Kd.V_alloc | apply Kd.V_drewN | apply Kd.V_drew));exact HO_475002.out⟩,⟨by (with_reducible repeat (first | refine blk_drewN ?_ _ | refine blk_drew ?_ | refine blk_alloc ?_ _));exact BK474.out⟩,⟨by repeat (first | (with_reducible exact HR473_2.out) | (with_reducible refine Kd.C_alloc ?_ _) | (with_reducible refine Kd.C_drewN ?_ _) | (with_reducible refine Kd.C_drew ?_) | exact HR473_2.out)⟩,⟨by repeat (first | (with_reducible first | exact HB.out | apply below_alloc | apply pw_below_drewN | apply below_drew1 | refine below_set ?_ GE474.out) | exact HB.out)⟩⟩
                 ·rw [if_neg c36] at H
                  exact absurd H (by simp)
                ·replace c35:=Bool.eq_false_iff.mpr c35
                 subst c35
                 have H1:(spec_l20Apart.j5 kj26 x3_3 x5_3 x6_3 x8_16) = some r:=by rw [if_neg (show ¬ (false = true) by decide)] at H;exact H
                 clear H
                 have H:=H1
                 clear H1
                 have H':=Aside0.mk H
                 clear H
                 go_wp2
                 go_meet
                 case rel=>exact ⟨_,(x8_16),H',⟨by have:=HK1.out;have:=HK2.out;have:=HK3.out;have:=HJ16.out;have:=HJ26.out;first | omega | exact Nat.le_refl _⟩,⟨by (with_reducible repeat (first | apply Kd.N_alloc | apply Kd.N_drewN | apply Kd.N_drew));exact HO_3.out⟩,⟨by (with_reducible repeat (first | apply Kd.V_alloc | apply Kd.V_drewN | apply Kd.V_drew));exact HO_8.out⟩,⟨by (with_reducible repeat (first | apply Kd.V_alloc | apply Kd.V_drewN | apply Kd.V_drew));exact HO_475002.out⟩,⟨by (with_reducible repeat (first | refine blk_drewN ?_ _ | refine blk_drew ?_ | refine blk_alloc ?_ _));exact BK474.out⟩,⟨by repeat (first | (with_reducible exact HR473_2.out) | (with_reducible refine Kd.C_alloc ?_ _) | (with_reducible refine Kd.C_drewN ?_ _) | (with_reducible refine Kd.C_drew ?_) | exact HR473_2.out)⟩,⟨by repeat (first | (with_reducible first | exact HB.out | apply below_alloc | apply pw_below_drewN | apply below_drew1 | refine below_set ?_ GE474.out) | exact HB.out)⟩⟩
               case rest =>
                clear HC34
                try clear c1
                try clear c2
                try clear p2
                try clear c3
                try clear q3
                try clear c4
                try clear c4b0
                try clear p4
                try clear q4
                try clear hx4
                try clear qi4
                try clear c5
                try clear c5b0
                try clear c6
                try clear p6
                try clear c7
                try clear c10
                try clear c14
                try clear c15
                try clear c15b0
                try clear c16
                try clear c16b0
                try clear c25
                try clear c25b0
                try clear c25b1
                try clear c28
                try clear c28b0
                try clear c28b1
                try clear c29
                try clear c29b0
                try clear c29b1
                try clear c35
                try clear c36
                try clear c36b0
                try clear c36b1
                try clear c38
                try clear q38
                try clear hcz20_0
                try clear hcz20_1
                try clear hcz20_2
                try clear hcz24_0
                try clear hcz24_1
                try clear hcz24_2
                try clear hcz26_0
                try clear hcz26_1
                try clear hcz26_2
                try clear hcz31_0
                try clear hcz31_1
                try clear hcz31_2
                try clear hcz33_0
                try clear hcz33_1
                try clear hcz33_2
                try clear hcz37_0
                try clear hcz37_1
                try clear hcz37_2
                try clear hfz20_0
                try clear hfz20_1
                try clear hfz20_2
                try clear hfz24_0
                try clear hfz24_1
                try clear hfz24_2
                try clear hfz26_0
                try clear hfz26_1
                try clear hfz26_2
                try clear hfz31_0
                try clear hfz31_1
                try clear hfz31_2
                try clear hfz33_0
                try clear hfz33_1
                try clear hfz33_2
                try clear hfz37_0
                try clear hfz37_1
                try clear hfz37_2
                try clear hx467_0
                try clear hx467_1
                try clear hx467_2
                try clear hx469_0
                try clear hx469_1
                try clear hx469_2
                try clear hx473_0
                try clear hx473_1
                try clear hx473_2
                try clear hx478_0
                try clear hx478_1
                try clear hx478_2
                try clear p2
                try clear p4
                try clear p467
                try clear p469
                try clear p473
                try clear p478
                try clear p6
                try clear q38
                try clear q4
                try clear q467
                try clear q469
                try clear q473
                try clear q478
                obtain ⟨kq,x8_33,HA,HJ33,HO_3,HO_8,HO_475002,BK474,HR473_2,HB⟩:=hcut
                cases kq with
                | zero=>exact absurd HA.out (by simp [spec_l20Apart.j5])
                | succ kj33 =>
                 have H:=HA.out
                 clear HA
                 simp only [spec_l20Apart.j5] at H
                 have H':=Aside0.mk H
                 clear H
                 go_wp2
                 go_loopg [3,5,9] kj33 (fun kq v3 v5 v9 w'=>∃ (x3_7:List (S25)) (x5_7:Bool) (x9_7:Int),v5 = .bool x5_7∧v9 = .int .i64 x9_7∧Aside0 (spec_l20Apart.l3 kq x3_7 x5_7 x6_3 x8_33 x9_7 = some r)∧Aside0 (kq ≤ kj33)∧Aside0 (Kd.N k25 25 w' w.heap.size (fun k_=>(P0_ k_ ∨ w.heap.size ≤ k_)∧k_ ≠ gb474) v3 x3_7)∧Aside0 (Kd.V k25 25 w' w.heap.size (fun k_=>(P0_ k_ ∨ w.heap.size ≤ k_)∧some k_ ≠ (v3:Value).ownBlock∧k_ ≠ gb474) u8 x8_33)∧Aside0 (Kd.V k25 25 w' w.heap.size (fun k_=>(P0_ k_ ∨ w.heap.size ≤ k_)∧some k_ ≠ (v3:Value).ownBlock∧k_ ≠ gb474) (.slice A473_2 ((rd_T25 x3_3 x6_3).f2).length c473_2) ((rd_T25 x3_3 x6_3).f2))∧Aside0 (w'.heap[gb474]? = some (.cells #[.int .i64 ((rd_T25 x3_3 x6_3).f0),.int .i64 ((rd_T25 x3_3 x6_3).f1),(.slice A473_2 ((rd_T25 x3_3 x6_3).f2).length c473_2)] 25 (0,0)))∧Aside0 (Below w.heap.size w w'))
                 case atStart=>exact ⟨(x3_3),(x5_3),(0),(by first | rfl | (simp;done) | (simp [*];done)),(by first | rfl | (simp;done) | (simp [*];done)),H',⟨Nat.le_refl _⟩,⟨by (with_reducible repeat (first | apply Kd.N_alloc | apply Kd.N_drewN | apply Kd.N_drew));exact HO_3.out⟩,⟨by (with_reducible repeat (first | apply Kd.V_alloc | apply Kd.V_drewN | apply Kd.V_drew));exact HO_8.out⟩,⟨by (with_reducible repeat (first | apply Kd.V_alloc | apply Kd.V_drewN | apply Kd.V_drew));exact HO_475002.out⟩,⟨by (with_reducible repeat (first | refine blk_drewN ?_ _ | refine blk_drew ?_ | refine blk_alloc ?_ _));exact BK474.out⟩,⟨by repeat (first | (with_reducible first | exact HB.out | apply below_alloc | apply pw_below_drewN | apply below_drew1 | refine below_set ?_ GE474.out) | exact HB.out)⟩⟩
                 case round =>
                  clear H'
                  try clear c1
                  try clear c2
                  try clear p2
                  try clear c3
                  try clear q3
                  try clear c4
                  try clear c4b0
                  try clear p4
                  try clear q4
                  try clear hx4
                  try clear qi4
                  try clear c5
                  try clear c5b0
                  try clear c6
                  try clear p6
                  try clear c7
                  try clear c10
                  try clear c14
                  try clear c15
                  try clear c15b0
                  try clear c16
                  try clear c16b0
                  try clear c25
                  try clear c25b0
                  try clear c25b1
                  try clear c28
                  try clear c28b0
                  try clear c28b1
                  try clear c29
                  try clear c29b0
                  try clear c29b1
                  try clear c35
                  try clear c36
                  try clear c36b0
                  try clear c36b1
                  try clear c38
                  try clear q38
                  try clear hcz20_0
                  try clear hcz20_1
                  try clear hcz20_2
                  try clear hcz24_0
                  try clear hcz24_1
                  try clear hcz24_2
                  try clear hcz26_0
                  try clear hcz26_1
                  try clear hcz26_2
                  try clear hcz31_0
                  try clear hcz31_1
                  try clear hcz31_2
                  try clear hcz33_0
                  try clear hcz33_1
                  try clear hcz33_2
                  try clear hcz37_0
                  try clear hcz37_1
                  try clear hcz37_2
                  try clear hfz20_0
                  try clear hfz20_1
                  try clear hfz20_2
                  try clear hfz24_0
                  try clear hfz24_1
                  try clear hfz24_2
                  try clear hfz26_0
                  try clear hfz26_1
                  try clear hfz26_2
                  try clear hfz31_0
                  try clear hfz31_1
                  try clear hfz31_2
                  try clear hfz33_0
                  try clear hfz33_1
                  try clear hfz33_2
                  try clear hfz37_0
                  try clear hfz37_1
                  try clear hfz37_2
                  try clear hx467_0
                  try clear hx467_1
                  try clear hx467_2
                  try clear hx469_0
                  try clear hx469_1
                  try clear hx469_2
                  try clear hx473_0
                  try clear hx473_1
                  try clear hx473_2
                  try clear hx478_0
                  try clear hx478_1
                  try clear hx478_2
                  try clear p2
                  try clear p4
                  try clear p467
                  try clear p469
                  try clear p473
                  try clear p478
                  try clear p6
                  try clear q3
                  try clear q38
                  try clear q4
                  try clear q467
                  try clear q469
                  try clear q473
                  try clear q478
                  obtain ⟨x3_7,x5_7,x9_7,rfl,rfl,HA,HK7,HO_3,HO_8,HO_475002,BK474,HB⟩:=hrel
                  cases gk with
                  | zero=>exact absurd HA.out (by simp [spec_l20Apart.l3])
                  | succ k7 =>
                   have H:=HA.out
                   clear HA
                   simp only [spec_l20Apart.l3] at H
                   by_cases c39:x9_7 < (x8_33.length:Int)
                   ·rw [if_pos c39] at H
                    have c39b0:decide (x9_7 < (x8_33.length:Int)) = true:=decide_eq_true c39
                    clear c39
                    by_cases c40:0 ≤ x9_7
                    ·rw [if_pos c40] at H
                     have c40b0:decide (0 ≤ x9_7) = true:=decide_eq_true c40
                     clear c40
                     replace H:=Option.bind_eq_some_iff.mp H
                     obtain ⟨t486,A410,H⟩:=H
                     replace H:(if t486 = true then (spec_l20Apart.l3 k7 x3_7 x5_7 x6_3 x8_33 (wrap64 (x9_7 + 1))) else (if x3_7.length < 3518437208883 then (spec_l20Apart.l3 k7 (x3_7 ++ [(⟨(rd_T25 x8_33 x9_7).f0,(rd_T25 x8_33 x9_7).f1,(rd_T25 x8_33 x9_7).f2⟩:S25)]) true x6_3 x8_33 (wrap64 (x9_7 + 1))) else (none))) = some r:=H
                     have A41:=Aside0.mk A410
                     clear A410
                     by_cases c42:t486 = true
                     ·subst c42
                      have H1:(spec_l20Apart.l3 k7 x3_7 x5_7 x6_3 x8_33 (wrap64 (x9_7 + 1))) = some r:=by rw [if_pos rfl] at H;exact H
                      clear H
                      have H:=H1
                      clear H1
                      have H':=Aside0.mk H
                      clear H
                      obtain ⟨Ao43,co43,eo43⟩:=Kd.V_slice HO_8.out
                      subst eo43
                      have p485:0 ≤ (x9_7:Int):=of_decide_eq_true (by first | (with_reducible assumption) | assumption)
                      have q485:x9_7 < (x8_33.length:Int):=of_decide_eq_true (by first | (with_reducible assumption) | assumption)
                      obtain ⟨ad485,A485_2,c485_2,e485,hx485_0,hx485_1,hx485_2,hl485_2,hi485_2⟩:=at_T25 (Kd.V_reads' HO_8.out).2.2 x9_7 p485 q485
                      cases e485
                      obtain ⟨ce485,hce485,hMe485,hcc485⟩:=Kd.V_get HO_8.out z25 x9_7 p485 (by first | exact q485 | exact of_decide_eq_true (by first | (with_reducible assumption) | assumption) | (have e_:=(Kd.V_reads' HO_8.out).1;omega))
                      obtain ⟨ua485_2,uc485_2,rfl,ul485_2,ge485_2⟩:=k25_openF hMe485
                      have hv485_2:=hcc485 2 _ rfl
                      rw [add_field _ _ 2 (by omega)] at hv485_2
                      replace hv485_2:=Option.some.inj (hv485_2.symm.trans hx485_2)
                      injection hv485_2 with hva_ hvn_ hvc_
                      rw [hva_] at ge485_2
                      rw [hvc_] at ul485_2
                      have HL485_2:=Aside0.mk (show Kd.V k25 25 _ w.heap.size _ _ ((rd_T25 x8_33 x9_7).f2) from Kd.V_mk ul485_2 ge485_2)
                      clear hva_ hvn_ hvc_ ge485_2 ul485_2
                      clear hcc485 hce485
                      have HR485_2:=Aside0.mk hi485_2
                      have HC485_2:=Aside0.mk hl485_2
                      clear hi485_2 hl485_2
                      replace p485:=eq_true p485
                      replace q485:=eq_true q485
                      obtain ⟨Ao44,co44,eo44⟩:=Kd.N_slice HO_3.out
                      subst eo44
                      go_wp2_with (first | ((with_reducible refine gate_callee (f:=63) rfl ?_);refine goesL_ (some 73) rfl rfl Tryd.func63 (by kernel_rfl) rfl #[.slice Ao44 x3_7.length co44,.agg #[.int .i64 ((rd_T25 x8_33 x9_7).f0),.int .i64 ((rd_T25 x8_33 x9_7).f1),.slice A485_2 ((rd_T25 x8_33 x9_7).f2).length c485_2]] rfl (by (try simp only [List.map_toArray,List.map_cons,List.map_nil]);first | done | rfl | (simp only [List.length_drop,List.length_take];rfl)) ?_;(with_reducible refine (spec_l20Has.calls k7 _ _ x3_7 ((rd_T25 x8_33 x9_7).f0) ((rd_T25 x8_33 x9_7).f1) _ _ ((rd_T25 x8_33 x9_7).f2) true _ ?side1 ?side2 ?side3 ?side4 A41.out).mono ?_);(case side1=>repeat (first | exact (Kd.N_reads' HO_3.out).2.2 | (with_reducible refine Kd.C_alloc ?_ _) | (with_reducible refine Kd.C_drewN ?_ _) | (with_reducible refine Kd.C_drew ?_)));(case side2=>exact (Kd.N_reads' HO_3.out).2.1);(case side3=>repeat (first | exact (by repeat (first | (with_reducible exact HR485_2.out) | (with_reducible refine Kd.C_alloc ?_ _) | (with_reducible refine Kd.C_drewN ?_ _) | (with_reducible refine Kd.C_drew ?_) | exact HR485_2.out)) | (with_reducible refine Kd.C_alloc ?_ _) | (with_reducible refine Kd.C_drewN ?_ _) | (with_reducible refine Kd.C_drew ?_)));(case side4=>exact HC485_2.out);rintro e w45 ⟨rfl,hb⟩;refine ⟨_,rfl,?_⟩;have n0_:=Aside0.mk (Kd.N_below (by (with_reducible repeat (first | apply Kd.N_alloc | apply Kd.N_drewN | apply Kd.N_drew));exact HO_3.out) hb);have n1_:=Aside0.mk (Kd.V_below (by (with_reducible repeat (first | apply Kd.V_alloc | apply Kd.V_drewN | apply Kd.V_drew));exact HO_8.out) hb);have n2_:=Aside0.mk (Kd.V_below (by (with_reducible repeat (first | apply Kd.V_alloc | apply Kd.V_drewN | apply Kd.V_drew));exact HO_475002.out) hb);have n3_:=Aside0.mk (Kd.V_below (by (with_reducible repeat (first | apply Kd.V_alloc | apply Kd.V_drewN | apply Kd.V_drew));exact HL485_2.out) hb);have n4_:=Aside0.mk (blk_below (g:=gb474) (o:=.cells #[.int .i64 ((rd_T25 x3_3 x6_3).f0),.int .i64 ((rd_T25 x3_3 x6_3).f1),.slice A473_2 ((rd_T25 x3_3 x6_3).f2).length c473_2] 25 (0,0)) (by (with_reducible repeat (first | refine blk_drewN ?_ _ | refine blk_drew ?_ | refine blk_alloc ?_ _));exact BK474.out) hb);have n5_:=Aside0.mk (Kd.C_below (by repeat (first | (with_reducible exact HR485_2.out) | (with_reducible refine Kd.C_alloc ?_ _) | (with_reducible refine Kd.C_drewN ?_ _) | (with_reducible refine Kd.C_drew ?_) | exact HR485_2.out)) hb);have n6_:=Aside0.mk (below_step (by repeat (first | (with_reducible first | exact HB.out | apply below_alloc | apply pw_below_drewN | apply below_drew1 | refine below_set ?_ GE474.out) | exact HB.out)) hb);clear HO_3;clear HO_8;clear HO_475002;clear HL485_2;clear BK474;clear HR485_2;clear HB;have HO_3:=n0_;have HO_8:=n1_;have HO_475002:=n2_;have HL485_2:=n3_;have BK474:=n4_;have HR485_2:=n5_;have HB:=n6_;clear n0_ n1_ n2_ n3_ n4_ n5_ n6_;(try clear hb);(try clear hb2);(try clear hk);(try clear hi)))
                      go_roundg k7
                      case measure=>have:=HK1.out;have:=HK2.out;have:=HK3.out;have:=HJ16.out;have:=HJ26.out;have:=HJ33.out;have:=HK7.out;omega
                      case rel=>exact ⟨(x3_7),(x5_7),(wrap64 (x9_7 + 1)),(by first | rfl | (simp;done) | (simp [*];done)),(by first | rfl | (simp;done) | (simp [*];done)),H',⟨by have:=HK1.out;have:=HK2.out;have:=HK3.out;have:=HJ16.out;have:=HJ26.out;have:=HJ33.out;have:=HK7.out;omega⟩,⟨by (with_reducible repeat (first | apply Kd.N_alloc | apply Kd.N_drewN | apply Kd.N_drew));exact HO_3.out⟩,⟨by (with_reducible repeat (first | apply Kd.V_alloc | apply Kd.V_drewN | apply Kd.V_drew));exact HO_8.out⟩,⟨by (with_reducible repeat (first | apply Kd.V_alloc | apply Kd.V_drewN | apply Kd.V_drew));exact HO_475002.out⟩,⟨by (with_reducible repeat (first | refine blk_drewN ?_ _ | refine blk_drew ?_ | refine blk_alloc ?_ _));exact BK474.out⟩,⟨by repeat (first | (with_reducible first | exact HB.out | apply below_alloc | apply pw_below_drewN | apply below_drew1 | refine below_set ?_ GE474.out) | exact HB.out)⟩⟩
                     ·replace c42:=Bool.eq_false_iff.mpr c42
                      subst c42
                      have H1:(if x3_7.length < 3518437208883 then (spec_l20Apart.l3 k7 (x3_7 ++ [(⟨(rd_T25 x8_33 x9_7).f0,(rd_T25 x8_33 x9_7).f1,(rd_T25 x8_33 x9_7).f2⟩:S25)]) true x6_3 x8_33 (wrap64 (x9_7 + 1))) else (none)) = some r:=by rw [if_neg (show ¬ (false = true) by decide)] at H;exact H
                      clear H
                      have H:=H1
                      clear H1
                      by_cases c46:x3_7.length < 3518437208883
                      ·rw [if_pos c46] at H
                       have LMc46:=Aside0.mk c46
                       clear c46
                       obtain ⟨y488,hy488⟩:∃ y_:List (S25),y_ = (x3_7 ++ [(⟨(rd_T25 x8_33 x9_7).f0,(rd_T25 x8_33 x9_7).f1,(rd_T25 x8_33 x9_7).f2⟩:S25)]):=⟨_,rfl⟩
                       replace H:(spec_l20Apart.l3 k7 y488 true x6_3 x8_33 (wrap64 (x9_7 + 1))) = some r:=by first | (rw [hy488];with_reducible exact H) | (have H2_:=(Option.bind_some _ _).symm.trans H;rw [hy488];with_reducible exact H2_) | (have H2_:=(Option.bind_some _ _).symm.trans H;with_reducible exact H2_) | with_reducible exact H | (rw [hy488];exact H) | exact H
                       have Ny488:=Aside0.mk hy488
                       clear hy488
                       have H':=Aside0.mk H
                       clear H
                       obtain ⟨Ao47,co47,eo47⟩:=Kd.V_slice HO_8.out
                       subst eo47
                       have p485:0 ≤ (x9_7:Int):=of_decide_eq_true (by first | (with_reducible assumption) | assumption)
                       have q485:x9_7 < (x8_33.length:Int):=of_decide_eq_true (by first | (with_reducible assumption) | assumption)
                       obtain ⟨ad485,A485_2,c485_2,e485,hx485_0,hx485_1,hx485_2,hl485_2,hi485_2⟩:=at_T25 (Kd.V_reads' HO_8.out).2.2 x9_7 p485 q485
                       cases e485
                       obtain ⟨ce485,hce485,hMe485,hcc485⟩:=Kd.V_get HO_8.out z25 x9_7 p485 (by first | exact q485 | exact of_decide_eq_true (by first | (with_reducible assumption) | assumption) | (have e_:=(Kd.V_reads' HO_8.out).1;omega))
                       obtain ⟨ua485_2,uc485_2,rfl,ul485_2,ge485_2⟩:=k25_openF hMe485
                       have hv485_2:=hcc485 2 _ rfl
                       rw [add_field _ _ 2 (by omega)] at hv485_2
                       replace hv485_2:=Option.some.inj (hv485_2.symm.trans hx485_2)
                       injection hv485_2 with hva_ hvn_ hvc_
                       rw [hva_] at ge485_2
                       rw [hvc_] at ul485_2
                       have HL485_2:=Aside0.mk (show Kd.V k25 25 _ w.heap.size _ _ ((rd_T25 x8_33 x9_7).f2) from Kd.V_mk ul485_2 ge485_2)
                       clear hva_ hvn_ hvc_ ge485_2 ul485_2
                       clear hcc485 hce485
                       have HR485_2:=Aside0.mk hi485_2
                       have HC485_2:=Aside0.mk hl485_2
                       clear hi485_2 hl485_2
                       replace p485:=eq_true p485
                       replace q485:=eq_true q485
                       obtain ⟨Ao48,co48,eo48⟩:=Kd.N_slice HO_3.out
                       subst eo48
                       go_wp2_with (first | ((with_reducible refine gate_callee (f:=63) rfl ?_);refine goesL_ (some 73) rfl rfl Tryd.func63 (by kernel_rfl) rfl #[.slice Ao48 x3_7.length co48,.agg #[.int .i64 ((rd_T25 x8_33 x9_7).f0),.int .i64 ((rd_T25 x8_33 x9_7).f1),.slice A485_2 ((rd_T25 x8_33 x9_7).f2).length c485_2]] rfl (by (try simp only [List.map_toArray,List.map_cons,List.map_nil]);first | done | rfl | (simp only [List.length_drop,List.length_take];rfl)) ?_;(with_reducible refine (spec_l20Has.calls k7 _ _ x3_7 ((rd_T25 x8_33 x9_7).f0) ((rd_T25 x8_33 x9_7).f1) _ _ ((rd_T25 x8_33 x9_7).f2) false _ ?side1 ?side2 ?side3 ?side4 A41.out).mono ?_);(case side1=>repeat (first | exact (Kd.N_reads' HO_3.out).2.2 | (with_reducible refine Kd.C_alloc ?_ _) | (with_reducible refine Kd.C_drewN ?_ _) | (with_reducible refine Kd.C_drew ?_)));(case side2=>exact (Kd.N_reads' HO_3.out).2.1);(case side3=>repeat (first | exact (by repeat (first | (with_reducible exact HR485_2.out) | (with_reducible refine Kd.C_alloc ?_ _) | (with_reducible refine Kd.C_drewN ?_ _) | (with_reducible refine Kd.C_drew ?_) | exact HR485_2.out)) | (with_reducible refine Kd.C_alloc ?_ _) | (with_reducible refine Kd.C_drewN ?_ _) | (with_reducible refine Kd.C_drew ?_)));(case side4=>exact HC485_2.out);rintro e w49 ⟨rfl,hb⟩;refine ⟨_,rfl,?_⟩;have n0_:=Aside0.mk (Kd.N_below (by (with_reducible repeat (first | apply Kd.N_alloc | apply Kd.N_drewN | apply Kd.N_drew));exact HO_3.out) hb);have n1_:=Aside0.mk (Kd.V_below (by (with_reducible repeat (first | apply Kd.V_alloc | apply Kd.V_drewN | apply Kd.V_drew));exact HO_8.out) hb);have n2_:=Aside0.mk (Kd.V_below (by (with_reducible repeat (first | apply Kd.V_alloc | apply Kd.V_drewN | apply Kd.V_drew));exact HO_475002.out) hb);have n3_:=Aside0.mk (Kd.V_below (by (with_reducible repeat (first | apply Kd.V_alloc | apply Kd.V_drewN | apply Kd.V_drew));exact HL485_2.out) hb);have n4_:=Aside0.mk (blk_below (g:=gb474) (o:=.cells #[.int .i64 ((rd_T25 x3_3 x6_3).f0),.int .i64 ((rd_T25 x3_3 x6_3).f1),.slice A473_2 ((rd_T25 x3_3 x6_3).f2).length c473_2] 25 (0,0)) (by (with_reducible repeat (first | refine blk_drewN ?_ _ | refine blk_drew ?_ | refine blk_alloc ?_ _));exact BK474.out) hb);have n5_:=Aside0.mk (Kd.C_below (by repeat (first | (with_reducible exact HR485_2.out) | (with_reducible refine Kd.C_alloc ?_ _) | (with_reducible refine Kd.C_drewN ?_ _) | (with_reducible refine Kd.C_drew ?_) | exact HR485_2.out)) hb);have n6_:=Aside0.mk (below_step (by repeat (first | (with_reducible first | exact HB.out | apply below_alloc | apply pw_below_drewN | apply below_drew1 | refine below_set ?_ GE474.out) | exact HB.out)) hb);clear HO_3;clear HO_8;clear HO_475002;clear HL485_2;clear BK474;clear HR485_2;clear HB;have HO_3:=n0_;have HO_8:=n1_;have HO_475002:=n2_;have HL485_2:=n3_;have BK474:=n4_;have HR485_2:=n5_;have HB:=n6_;clear n0_ n1_ n2_ n3_ n4_ n5_ n6_;(try clear hb);(try clear hb2);(try clear hk);(try clear hi);have p487:0 ≤ (x9_7:Int):=of_decide_eq_true (by first | (with_reducible assumption) | assumption);have q487:x9_7 < (x8_33.length:Int):=of_decide_eq_true (by first | (with_reducible assumption) | assumption);obtain ⟨ad487,A487_2,c487_2,e487,hx487_0,hx487_1,hx487_2,hl487_2,hi487_2⟩:=at_T25 (Kd.V_reads' HO_8.out).2.2 x9_7 p487 q487;obtain rfl:ad485 = ad487:=(by injection e487);obtain ⟨ce487,hce487,hMe487,hcc487⟩:=Kd.V_get HO_8.out z25 x9_7 p487 (by first | exact q487 | exact of_decide_eq_true (by first | (with_reducible assumption) | assumption) | (have e_:=(Kd.V_reads' HO_8.out).1;omega));obtain ⟨ua487_2,uc487_2,rfl,ul487_2,ge487_2⟩:=k25_openF hMe487;have hv487_2:=hcc487 2 _ rfl;rw [add_field _ _ 2 (by omega)] at hv487_2;replace hv487_2:=Option.some.inj (hv487_2.symm.trans hx487_2);injection hv487_2 with hva_ hvn_ hvc_;rw [hva_] at ge487_2;rw [hvc_] at ul487_2;have HL487_2:=Aside0.mk (show Kd.V k25 25 _ w.heap.size _ _ ((rd_T25 x8_33 x9_7).f2) from Kd.V_mk ul487_2 ge487_2);clear hva_ hvn_ hvc_ ge487_2 ul487_2;clear hcc487 hce487;have HR487_2:=Aside0.mk hi487_2;have HC487_2:=Aside0.mk hl487_2;clear hi487_2 hl487_2;replace p487:=eq_true p487;replace q487:=eq_true q487) | ((with_reducible refine gate_builtin (b:=.append) (xs:=#[.tmp 75,.tmp 80]) rfl ?_);at_builtin;refine Kd.N_append k25 (w0:=w) w.heap.size rfl (.tmp 75) (.tmp 80) 23 25 (.agg #[(.int .i64 0),(.int .i64 0),(.slice none 0 0)]) 40 rfl Tryd.underlying23 info25 rfl (by decide) (by omega) (.slice Ao48 x3_7.length co48) x3_7 (⟨(rd_T25 x8_33 x9_7).f0,(rd_T25 x8_33 x9_7).f1,(rd_T25 x8_33 x9_7).f2⟩:S25) [.int .i64 ((rd_T25 x8_33 x9_7).f0),.int .i64 ((rd_T25 x8_33 x9_7).f1),.slice A487_2 ((rd_T25 x8_33 x9_7).f2).length c487_2] (fun k_=>(P0_ k_ ∨ w.heap.size ≤ k_)∧k_ ≠ gb474) (fun k_=>((fun k_=>(P0_ k_ ∨ w.heap.size ≤ k_)∧k_ ≠ gb474)) k_∧some k_ ≠ (.slice Ao48 x3_7.length co48:Value).ownBlock) rfl rfl ?aP (fun _ hk=>hk) ?aF ?aO ?aB ?aS ?aL ?_;(case aP=>exact (k25_mkF _ _ (⟨(rd_T25 x8_33 x9_7).f0,(rd_T25 x8_33 x9_7).f1,(rd_T25 x8_33 x9_7).f2⟩:S25) (Kd.V_reads' (Kd.V_mono (ok':=(fun k_=>((fun k_=>(P0_ k_ ∨ w.heap.size ≤ k_)∧k_ ≠ gb474)) k_∧some k_ ≠ (.slice Ao48 x3_7.length co48:Value).ownBlock)) (HL487_2.out) (fun k_ hk=>⟨⟨hk.1,hk.2.2⟩,hk.2.1⟩))).2.1 (Kd.V_F (Kd.V_mono (ok':=(fun k_=>((fun k_=>(P0_ k_ ∨ w.heap.size ≤ k_)∧k_ ≠ gb474)) k_∧some k_ ≠ (.slice Ao48 x3_7.length co48:Value).ownBlock)) (HL487_2.out) (fun k_ hk=>⟨⟨hk.1,hk.2.2⟩,hk.2.1⟩)))));(case aB=>exact (by repeat (first | (with_reducible first | exact HB.out | apply below_alloc | apply pw_below_drewN | apply below_drew1 | refine below_set ?_ GE474.out) | exact HB.out)));(case aF=>exact (fun k_ hk=>⟨(.inr (Nat.le_trans (below_size (by repeat (first | (with_reducible first | exact HB.out | apply below_alloc | apply pw_below_drewN | apply below_drew1 | refine below_set ?_ GE474.out) | exact HB.out))) hk)),Kd.freshB (g:=gb474) (o:=.cells #[.int .i64 ((rd_T25 x3_3 x6_3).f0),.int .i64 ((rd_T25 x3_3 x6_3).f1),.slice A473_2 ((rd_T25 x3_3 x6_3).f2).length c473_2] 25 (0,0)) (by (with_reducible repeat (first | refine blk_drewN ?_ _ | refine blk_drew ?_ | refine blk_alloc ?_ _));exact BK474.out) k_ hk⟩));(case aO=>exact (by (with_reducible repeat (first | apply Kd.N_alloc | apply Kd.N_drewN | apply Kd.N_drew));exact HO_3.out));(case aS=>exact (below_size (by repeat (first | (with_reducible first | exact HB.out | apply below_alloc | apply pw_below_drewN | apply below_drew1 | refine below_set ?_ GE474.out) | exact HB.out))));(case aL=>have:=LMc46.out;omega);intro v489 w50 ho hb hg hat;rw [← Ny488.out] at ho;have n0_:=Aside0.mk (Kd.V_afterv (ok:=(fun k_=>(P0_ k_ ∨ w.heap.size ≤ k_)∧k_ ≠ gb474)) (by (with_reducible repeat (first | apply Kd.V_alloc | apply Kd.V_drewN | apply Kd.V_drew));exact Kd.V_mono HO_8.out (fun _ hk=>⟨⟨hk.1,hk.2.2⟩,hk.2.1⟩)) hg hat);have n1_:=Aside0.mk (Kd.V_afterv (ok:=(fun k_=>(P0_ k_ ∨ w.heap.size ≤ k_)∧k_ ≠ gb474)) (by (with_reducible repeat (first | apply Kd.V_alloc | apply Kd.V_drewN | apply Kd.V_drew));exact Kd.V_mono HO_475002.out (fun _ hk=>⟨⟨hk.1,hk.2.2⟩,hk.2.1⟩)) hg hat);have n2_:=Aside0.mk (blk_grown (g:=gb474) (o:=.cells #[.int .i64 ((rd_T25 x3_3 x6_3).f0),.int .i64 ((rd_T25 x3_3 x6_3).f1),.slice A473_2 ((rd_T25 x3_3 x6_3).f2).length c473_2] 25 (0,0)) (by (with_reducible repeat (first | refine blk_drewN ?_ _ | refine blk_drew ?_ | refine blk_alloc ?_ _));exact BK474.out) hg (Kd.N_away HO_3.out (fun _ hk=>hk.2)));have n3_:=Aside0.mk (Kd.V_afterv (ok:=(fun k_=>(P0_ k_ ∨ w.heap.size ≤ k_)∧k_ ≠ gb474)) (by (with_reducible repeat (first | apply Kd.V_alloc | apply Kd.V_drewN | apply Kd.V_drew));exact Kd.V_mono HL485_2.out (fun _ hk=>⟨⟨hk.1,hk.2.2⟩,hk.2.1⟩)) hg hat);have n4_:=Aside0.mk (Kd.V_afterv (ok:=(fun k_=>(P0_ k_ ∨ w.heap.size ≤ k_)∧k_ ≠ gb474)) (by (with_reducible repeat (first | apply Kd.V_alloc | apply Kd.V_drewN | apply Kd.V_drew));exact Kd.V_mono HL487_2.out (fun _ hk=>⟨⟨hk.1,hk.2.2⟩,hk.2.1⟩)) hg hat);have n5_:=Aside0.mk (hb);have n6_:=Aside0.mk (ho);clear HO_8;clear HO_475002;clear BK474;clear HL485_2;clear HL487_2;clear HB;clear HO_3;have HO_8:=n0_;have HO_475002:=n1_;have BK474:=n2_;have HL485_2:=n3_;have HL487_2:=n4_;have HB:=n5_;have HO490:=n6_;clear n0_ n1_ n2_ n3_ n4_ n5_ n6_;clear ho hb hg hat))
                       go_roundg k7
                       case measure=>have:=HK1.out;have:=HK2.out;have:=HK3.out;have:=HJ16.out;have:=HJ26.out;have:=HJ33.out;have:=HK7.out;omega
                       case rel=>exact ⟨(y488),(true),(wrap64 (x9_7 + 1)),(by first | rfl | (simp;done) | (simp [*];done)),(by first | rfl | (simp;done) | (simp [*];done)),H',⟨by have:=HK1.out;have:=HK2.out;have:=HK3.out;have:=HJ16.out;have:=HJ26.out;have:=HJ33.out;have:=HK7.out;omega⟩,⟨by (with_reducible repeat (first | apply Kd.N_alloc | apply Kd.N_drewN | apply Kd.N_drew));exact HO490.out⟩,⟨by (with_reducible repeat (first | apply Kd.V_alloc | apply Kd.V_drewN | apply Kd.V_drew));exact Kd.V_mono HO_8.out (fun _ hk=>⟨hk.1.1,⟨hk.2,hk.1.2⟩⟩)⟩,⟨by (with_reducible repeat (first | apply Kd.V_alloc | apply Kd.V_drewN | apply Kd.V_drew));exact Kd.V_mono HO_475002.out (fun _ hk=>⟨hk.1.1,⟨hk.2,hk.1.2⟩⟩)⟩,⟨by (with_reducible repeat (first | refine blk_drewN ?_ _ | refine blk_drew ?_ | refine blk_alloc ?_ _));exact BK474.out⟩,⟨by repeat (first | (with_reducible first | exact HB.out | apply below_alloc | apply pw_below_drewN | apply below_drew1 | refine below_set ?_ GE474.out) | exact HB.out)⟩⟩
                      ·rw [if_neg c46] at H
                       exact absurd H (by simp)
                    ·rw [if_neg c40] at H
                     exact absurd H (by simp)
                   ·rw [if_neg c39] at H
                    have c39b0:decide (x9_7 < (x8_33.length:Int)) = false:=decide_eq_false c39
                    clear c39
                    have H':=Aside0.mk H
                    clear H
                    obtain ⟨Ao51,co51,eo51⟩:=Kd.V_slice HO_8.out
                    subst eo51
                    go_wp2
                    go_roundg k7
                    case measure=>have:=HK1.out;have:=HK2.out;have:=HK3.out;have:=HJ16.out;have:=HJ26.out;have:=HJ33.out;have:=HK7.out;omega
                    case rel=>exact ⟨(x3_7),(x5_7),(wrap64 (x6_3 + 1)),(by first | rfl | (simp;done) | (simp [*];done)),(by first | rfl | (simp;done) | (simp [*];done)),H',⟨by have:=HK1.out;have:=HK2.out;have:=HK3.out;have:=HJ16.out;have:=HJ26.out;have:=HJ33.out;have:=HK7.out;omega⟩,⟨by (with_reducible repeat (first | apply Kd.N_alloc | apply Kd.N_drewN | apply Kd.N_drew));exact Kd.N_mono HO_3.out (fun _ hk=>hk.1)⟩,⟨by repeat (first | (with_reducible first | exact HB.out | apply below_alloc | apply pw_below_drewN | apply below_drew1 | refine below_set ?_ GE474.out) | exact HB.out)⟩⟩
          ·rw [if_neg c16] at H
           exact absurd H (by simp)
         ·rw [if_neg c15] at H
          have c15b0:decide (x6_3 < (x3_3.length:Int)) = false:=decide_eq_false c15
          clear c15
          have H':=Aside0.mk H
          clear H
          obtain ⟨Ao52,co52,eo52⟩:=Kd.N_slice HO_3.out
          subst eo52
          go_wp2
          go_roundg k3
          case measure=>have:=HK1.out;have:=HK2.out;have:=HK3.out;omega
          case rel=>exact ⟨(x3_3),(x5_3),(by first | rfl | (simp;done) | (simp [*];done)),H',⟨by have:=HK1.out;have:=HK2.out;have:=HK3.out;omega⟩,⟨by (with_reducible repeat (first | apply Kd.N_alloc | apply Kd.N_drewN | apply Kd.N_drew));exact HO_3.out⟩,⟨by repeat (first | (with_reducible first | exact HB.out | apply below_alloc | apply pw_below_drewN | apply below_drew1) | exact HB.out)⟩⟩
      ·replace c14:=Bool.eq_false_iff.mpr c14
       subst c14
       have H1:(some x3_2) = some r:=by rw [if_neg (show ¬ (false = true) by decide)] at H;exact H
       clear H
       have H:=H1
       clear H1
       obtain rfl:=Option.some.inj H
       go_wp2
       go_ret
       exact ⟨_,by first | rfl | (simp [errW_none,errW_some] <;> rfl) | (simp [*,errW_none,errW_some] <;> rfl),by (with_reducible repeat (first | apply Kd.N_alloc | apply Kd.N_drewN | apply Kd.N_drew));exact HO_3.out,by repeat (first | (with_reducible first | exact HB.out | apply below_alloc | apply pw_below_drewN | apply below_drew1) | exact HB.out)⟩
def laws_szSeal.body (g:List (S33) → Int → Option (Int)) (a0_0:Int) (a0_1:Int) (l0_2:List (S33)) (a1:Int):Option (Int):=(g l0_2 a1).bind fun t240=>(if t240 < 0 then (some (-1)) else (some t240))
theorem laws_szSeal.body_mono {g g':List (S33) → Int → Option (Int)} (hg:∀ y0 y1,LeO (g y0 y1) (g' y0 y1)):∀ a0_0 a0_1 l0_2 a1,LeO (laws_szSeal.body g a0_0 a0_1 l0_2 a1) (laws_szSeal.body g' a0_0 a0_1 l0_2 a1):=by
 intro a0_0 a0_1 l0_2 a1
 unfold laws_szSeal.body
 repeat' first
   | (with_reducible exact hg _ _)
   | (with_reducible exact LeO.refl _)
   | (with_reducible exact LeO.none _)
   | (with_reducible refine LeO.ite ?_ ?_)
   | (with_reducible refine LeO.bind ?_ (fun _=>?_))
   | exact hg _ _
   | exact LeO.none _
   | refine LeO.ite ?_ ?_
   | refine LeO.bind ?_ (fun _=>?_)
mutual
def laws_szSealS.l0:Nat → List (S33) → Int → Int → Option (Int)
 | 0,_,_,_=>none
 | k + 1,x0,x1,x5=>if x5 < (x0.length:Int) then (if 0 ≤ x5 then ((laws_szSeal.body (fun y0 y1=>laws_szSealS.f k y0 y1) ((rd_T33 x0 x5).f0) ((rd_T33 x0 x5).f1) ((rd_T33 x0 x5).f2) x1).bind fun t238=>(if t238 < 0 then (some (-1)) else (laws_szSealS.l0 k x0 t238 (wrap64 (x5 + 1))))) else (none)) else (some x1)
def laws_szSealS.f:Nat → List (S33) → Int → Option (Int)
 | 0,_,_=>none
 | k + 1,l0,a1=>if (wrap64 (a1 - (l0.length:Int))) < 0 then (some (-1)) else (laws_szSealS.l0 k l0 (wrap64 (a1 - (l0.length:Int))) 0)
end
abbrev laws_szSeal.f (k:Nat) (a0_0:Int) (a0_1:Int) (l0_2:List (S33)) (a1:Int):Option (Int):=laws_szSeal.body (fun y0 y1=>laws_szSealS.f k y0 y1) a0_0 a0_1 l0_2 a1
theorem laws_szSealS.mono_l:∀ k,(∀ y0 y1,LeO (laws_szSealS.f k y0 y1) (laws_szSealS.f (k + 1) y0 y1))∧(∀ y0 y1 y2,LeO (laws_szSealS.l0 k y0 y1 y2) (laws_szSealS.l0 (k + 1) y0 y1 y2))
 | 0=>⟨fun _ _ r h=>by simp [laws_szSealS.f] at h,fun _ _ _ r h=>by simp [laws_szSealS.l0] at h⟩
 | k + 1=>by
  obtain ⟨ih0,ih1⟩:=laws_szSealS.mono_l k
  refine ⟨?_,?_⟩
  ·intro y0 y1
   unfold laws_szSealS.f
   repeat' first
   | (with_reducible exact ih0 _ _)
   | (with_reducible exact ih1 _ _ _)
   | (with_reducible exact laws_szSeal.body_mono (fun y0 y1=>ih0 y0 y1) _ _ _ _)
   | (with_reducible exact LeO.refl _)
   | (with_reducible exact LeO.none _)
   | (with_reducible refine LeO.ite ?_ ?_)
   | (with_reducible refine LeO.bind ?_ (fun _=>?_))
   | exact ih0 _ _
   | exact ih1 _ _ _
   | exact LeO.none _
   | refine LeO.ite ?_ ?_
   | refine LeO.bind ?_ (fun _=>?_)
  ·intro y0 y1 y2
   unfold laws_szSealS.l0
   repeat' first
   | (with_reducible exact ih0 _ _)
   | (with_reducible exact ih1 _ _ _)
   | (with_reducible exact laws_szSeal.body_mono (fun y0 y1=>ih0 y0 y1) _ _ _ _)
   | (with_reducible exact LeO.refl _)
   | (with_reducible exact LeO.none _)
   | (with_reducible refine LeO.ite ?_ ?_)
   | (with_reducible refine LeO.bind ?_ (fun _=>?_))
   | exact ih0 _ _
   | exact ih1 _ _ _
   | exact LeO.none _
   | refine LeO.ite ?_ ?_
   | refine LeO.bind ?_ (fun _=>?_)
theorem laws_szSealS.mono:∀ a0 a1 k,LeO (laws_szSealS.f k a0 a1) (laws_szSealS.f (k + 1) a0 a1):=by
 intro a0 a1 k
 obtain ⟨ih0,ih1⟩:=laws_szSealS.mono_l k
 exact ih0 a0 a1
theorem laws_szSeal.mono:∀ a0_0 a0_1 l0_2 a1 k,LeO (laws_szSeal.f k a0_0 a0_1 l0_2 a1) (laws_szSeal.f (k + 1) a0_0 a0_1 l0_2 a1):=fun a0_0 a0_1 l0_2 a1 k=>laws_szSeal.body_mono (fun y0 y1=>laws_szSealS.mono y0 y1 k) a0_0 a0_1 l0_2 a1
abbrev laws_szSealS.Con (k:Nat):Prop:=∀ (A0:Option Addr) (c0:Nat) (l0:List (S33)) (a1:Int) (r:Int) (w:World) (hr0:Kd.C k33 w A0 l0.length l0) (hc0:l0.length ≤ c0) (h:laws_szSealS.f k l0 a1 = some r),
  Calls Tryd.prog 25 #[.slice A0 l0.length c0,.int .i64 a1] w fun e w'=>e = .returned (.int .i64 r)∧Below w.heap.size w w'
set_option maxHeartbeats 8000000 in
set_option maxRecDepth 100000 in
theorem laws_szSeal.calls_of (k:Nat) (ihS:∀ j_,j_ ≤ k → laws_szSealS.Con j_) (a0_0:Int) (a0_1:Int) (A0_2:Option Addr) (c0_2:Nat) (l0_2:List (S33)) (a1:Int) (r:Int) (w:World) (hr0_2:Kd.C k33 w A0_2 l0_2.length l0_2) (hc0_2:l0_2.length ≤ c0_2) (h:laws_szSeal.f k a0_0 a0_1 l0_2 a1 = some r) :
  Calls Tryd.prog 20 #[.agg #[.int .i64 a0_0,.int .i64 a0_1,.slice A0_2 l0_2.length c0_2],.int .i64 a1] w fun e w'=>e = .returned (.int .i64 r)∧Below w.heap.size w w':=by
 have hu33:=Tryd.underlying33
 have HR0_2:=Aside0.mk hr0_2
 have HC0_2:=Aside0.mk hc0_2
 clear hr0_2 hc0_2
 have HB:=Aside0.mk (Below.refl w.heap.size w)
 have H:((laws_szSealS.f k l0_2 a1).bind fun t240=>(if t240 < 0 then (some (-1)) else (some t240))) = some r:=h
 clear h
 replace H:=Option.bind_eq_some_iff.mp H
 obtain ⟨t240,A30,H⟩:=H
 replace H:(if t240 < 0 then (some (-1)) else (some t240)) = some r:=H
 have A3:=Aside0.mk A30
 clear A30
 by_cases c4:t240 < 0
 ·rw [if_pos c4] at H
  have c4b0:decide (t240 < 0) = true:=decide_eq_true c4
  clear c4
  obtain rfl:=Option.some.inj H
  go_enter Tryd.func20,Tryd.ntmps20
  go_wp2_with (first | ((with_reducible refine gate_dst (N:=2) rfl ?_);refine box_event ?hg (N:=2) ?hd (cs:=#[.int .i64 a0_0,.int .i64 a0_1,.slice A0_2 l0_2.length c0_2]) (t:=33) ?hr ?_;(case hd=>rfl);(case hg=>rfl);(case hr=>first | (go_simp;done) | (go_simp;rfl));intro gb239 hg w5 hbox hb;have n0_:=Aside0.mk (below_step (by repeat (first | (with_reducible first | exact HB.out | apply below_alloc | apply pw_below_drewN | apply below_drew1) | exact HB.out)) hb);have n1_:=Aside0.mk (hbox);have n2_:=Aside0.mk ((by rw [hg];exact (below_size (by repeat (first | (with_reducible first | exact HB.out | apply below_alloc | apply pw_below_drewN | apply below_drew1) | exact HB.out))):w.heap.size ≤ gb239));have n3_:=Aside0.mk ((by rw [hg];exact (below_size (by repeat (first | (with_reducible first | exact HB.out | apply below_alloc | apply pw_below_drewN | apply below_drew1) | exact HB.out))):w.heap.size ≤ gb239));clear HB;have HB:=n0_;have BK239:=n1_;have GW239:=n2_;have GE239:=n3_;clear n0_ n1_ n2_ n3_;clear hb hbox hg;have hcz6_0:w5.cell? ⟨gb239,0,none⟩ = some (.int .i64 a0_0):=(blk_cell BK239.out 0).trans rfl;have hcz6_1:w5.cell? ⟨gb239,1,none⟩ = some (.int .i64 a0_1):=(blk_cell BK239.out 1).trans rfl;have hcz6_2:w5.cell? ⟨gb239,2,none⟩ = some (.slice A0_2 l0_2.length c0_2):=(blk_cell BK239.out 2).trans rfl;have hfz6_0:=blk_frozen BK239.out 0;have hfz6_1:=blk_frozen BK239.out 1;have hfz6_2:=blk_frozen BK239.out 2) | ((with_reducible refine gate_callee (f:=25) rfl ?_);refine goesL_ (some 8) rfl rfl Tryd.func25 (by kernel_rfl) rfl #[.slice A0_2 l0_2.length c0_2,.int .i64 a1] rfl (by (try simp only [List.map_toArray,List.map_cons,List.map_nil]);first | done | rfl | (simp only [List.length_drop,List.length_take];rfl)) ?_;(with_reducible refine (ihS k (Nat.le_refl _) _ _ l0_2 a1 t240 _ ?side1 ?side2 A3.out).mono ?_);(case side1=>repeat (first | exact (Kd.C_below HR0_2.out HB.out) | (with_reducible refine Kd.C_alloc ?_ _) | (with_reducible refine Kd.C_drewN ?_ _) | (with_reducible refine Kd.C_drew ?_)));(case side2=>exact HC0_2.out);rintro e w7 ⟨rfl,hb⟩;refine ⟨_,rfl,?_⟩;have n0_:=Aside0.mk (blk_below (g:=gb239) (o:=.cells #[.int .i64 a0_0,.int .i64 a0_1,.slice A0_2 l0_2.length c0_2] 33 (0,0)) (by (with_reducible repeat (first | refine blk_drewN ?_ _ | refine blk_drew ?_ | refine blk_alloc ?_ _));exact BK239.out) hb);have n1_:=Aside0.mk (below_step (by repeat (first | (with_reducible first | exact HB.out | apply below_alloc | apply pw_below_drewN | apply below_drew1 | refine below_set ?_ GE239.out) | exact HB.out)) hb);clear BK239;clear HB;have BK239:=n0_;have HB:=n1_;clear n0_ n1_;(try clear hb);(try clear hb2);(try clear hk);(try clear hi)))
  go_ret
  exact ⟨by first | rfl | (simp [errW_none,errW_some] <;> rfl) | (simp [*,errW_none,errW_some] <;> rfl),by repeat (first | (with_reducible first | exact HB.out | apply below_alloc | apply pw_below_drewN | apply below_drew1 | refine below_set ?_ GE239.out) | exact HB.out)⟩
 ·rw [if_neg c4] at H
  have c4b0:decide (t240 < 0) = false:=decide_eq_false c4
  clear c4
  obtain rfl:=Option.some.inj H
  go_enter Tryd.func20,Tryd.ntmps20
  go_wp2_with (first | ((with_reducible refine gate_dst (N:=2) rfl ?_);refine box_event ?hg (N:=2) ?hd (cs:=#[.int .i64 a0_0,.int .i64 a0_1,.slice A0_2 l0_2.length c0_2]) (t:=33) ?hr ?_;(case hd=>rfl);(case hg=>rfl);(case hr=>first | (go_simp;done) | (go_simp;rfl));intro gb239 hg w8 hbox hb;have n0_:=Aside0.mk (below_step (by repeat (first | (with_reducible first | exact HB.out | apply below_alloc | apply pw_below_drewN | apply below_drew1) | exact HB.out)) hb);have n1_:=Aside0.mk (hbox);have n2_:=Aside0.mk ((by rw [hg];exact (below_size (by repeat (first | (with_reducible first | exact HB.out | apply below_alloc | apply pw_below_drewN | apply below_drew1) | exact HB.out))):w.heap.size ≤ gb239));have n3_:=Aside0.mk ((by rw [hg];exact (below_size (by repeat (first | (with_reducible first | exact HB.out | apply below_alloc | apply pw_below_drewN | apply below_drew1) | exact HB.out))):w.heap.size ≤ gb239));clear HB;have HB:=n0_;have BK239:=n1_;have GW239:=n2_;have GE239:=n3_;clear n0_ n1_ n2_ n3_;clear hb hbox hg;have hcz9_0:w8.cell? ⟨gb239,0,none⟩ = some (.int .i64 a0_0):=(blk_cell BK239.out 0).trans rfl;have hcz9_1:w8.cell? ⟨gb239,1,none⟩ = some (.int .i64 a0_1):=(blk_cell BK239.out 1).trans rfl;have hcz9_2:w8.cell? ⟨gb239,2,none⟩ = some (.slice A0_2 l0_2.length c0_2):=(blk_cell BK239.out 2).trans rfl;have hfz9_0:=blk_frozen BK239.out 0;have hfz9_1:=blk_frozen BK239.out 1;have hfz9_2:=blk_frozen BK239.out 2) | ((with_reducible refine gate_callee (f:=25) rfl ?_);refine goesL_ (some 8) rfl rfl Tryd.func25 (by kernel_rfl) rfl #[.slice A0_2 l0_2.length c0_2,.int .i64 a1] rfl (by (try simp only [List.map_toArray,List.map_cons,List.map_nil]);first | done | rfl | (simp only [List.length_drop,List.length_take];rfl)) ?_;(with_reducible refine (ihS k (Nat.le_refl _) _ _ l0_2 a1 t240 _ ?side1 ?side2 A3.out).mono ?_);(case side1=>repeat (first | exact (Kd.C_below HR0_2.out HB.out) | (with_reducible refine Kd.C_alloc ?_ _) | (with_reducible refine Kd.C_drewN ?_ _) | (with_reducible refine Kd.C_drew ?_)));(case side2=>exact HC0_2.out);rintro e w10 ⟨rfl,hb⟩;refine ⟨_,rfl,?_⟩;have n0_:=Aside0.mk (blk_below (g:=gb239) (o:=.cells #[.int .i64 a0_0,.int .i64 a0_1,.slice A0_2 l0_2.length c0_2] 33 (0,0)) (by (with_reducible repeat (first | refine blk_drewN ?_ _ | refine blk_drew ?_ | refine blk_alloc ?_ _));exact BK239.out) hb);have n1_:=Aside0.mk (below_step (by repeat (first | (with_reducible first | exact HB.out | apply below_alloc | apply pw_below_drewN | apply below_drew1 | refine below_set ?_ GE239.out) | exact HB.out)) hb);clear BK239;clear HB;have BK239:=n0_;have HB:=n1_;clear n0_ n1_;(try clear hb);(try clear hb2);(try clear hk);(try clear hi)))
  go_ret
  exact ⟨by first | rfl | (simp [errW_none,errW_some] <;> rfl) | (simp [*,errW_none,errW_some] <;> rfl),by repeat (first | (with_reducible first | exact HB.out | apply below_alloc | apply pw_below_drewN | apply below_drew1 | refine below_set ?_ GE239.out) | exact HB.out)⟩
set_option maxHeartbeats 8000000 in
set_option maxRecDepth 100000 in
theorem laws_szSealS.calls (k:Nat):∀ (A0:Option Addr) (c0:Nat) (l0:List (S33)) (a1:Int) (r:Int) (w:World) (hr0:Kd.C k33 w A0 l0.length l0) (hc0:l0.length ≤ c0) (h:laws_szSealS.f k l0 a1 = some r),
  Calls Tryd.prog 25 #[.slice A0 l0.length c0,.int .i64 a1] w fun e w'=>e = .returned (.int .i64 r)∧Below w.heap.size w w':=by
 induction k using Nat.strongRecOn with
 | _ k ih =>
 intro A0 c0 l0 a1 r w hr0 hc0 h
 cases k with
 | zero=>exact absurd h (by simp [laws_szSealS.f])
 | succ k =>
 simp only [laws_szSealS.f] at h
 have hu33:=Tryd.underlying33
 have HR0:=Aside0.mk hr0
 have HC0:=Aside0.mk hc0
 clear hr0 hc0
 have HB:=Aside0.mk (Below.refl w.heap.size w)
 have H:(if (wrap64 (a1 - (l0.length:Int))) < 0 then (some (-1)) else (laws_szSealS.l0 k l0 (wrap64 (a1 - (l0.length:Int))) 0)) = some r:=h
 clear h
 by_cases c3:(wrap64 (a1 - (l0.length:Int))) < 0
 ·rw [if_pos c3] at H
  have c3b0:decide ((wrap64 (a1 - (l0.length:Int))) < 0) = true:=decide_eq_true c3
  clear c3
  obtain rfl:=Option.some.inj H
  go_enter Tryd.func25,Tryd.ntmps25
  go_wp2
  go_ret
  exact ⟨by first | rfl | (simp [errW_none,errW_some] <;> rfl) | (simp [*,errW_none,errW_some] <;> rfl),by repeat (first | (with_reducible first | exact HB.out | apply below_alloc | apply pw_below_drewN | apply below_drew1) | exact HB.out)⟩
 ·rw [if_neg c3] at H
  have c3b0:decide ((wrap64 (a1 - (l0.length:Int))) < 0) = false:=decide_eq_false c3
  clear c3
  have H':=Aside0.mk H
  clear H
  go_enter Tryd.func25,Tryd.ntmps25
  go_wp2
  go_loopg [1,5] k (fun kq v1 v5 w'=>∃ (x1_1:Int) (x5_1:Int),v1 = .int .i64 x1_1∧v5 = .int .i64 x5_1∧Aside0 (laws_szSealS.l0 kq l0 x1_1 x5_1 = some r)∧Aside0 (kq ≤ k)∧Aside0 (Below w.heap.size w w'))
  case atStart=>exact ⟨(wrap64 (a1 - (l0.length:Int))),(0),(by first | rfl | (simp;done) | (simp [*];done)),(by first | rfl | (simp;done) | (simp [*];done)),H',⟨Nat.le_refl _⟩,⟨by repeat (first | (with_reducible first | exact HB.out | apply below_alloc | apply pw_below_drewN | apply below_drew1) | exact HB.out)⟩⟩
  case round =>
   clear H'
   try clear c2
   try clear p2
   try clear c3
   try clear c3b0
   obtain ⟨x1_1,x5_1,rfl,rfl,HA,HK1,HB⟩:=hrel
   cases gk with
   | zero=>exact absurd HA.out (by simp [laws_szSealS.l0])
   | succ k1 =>
    have H:=HA.out
    clear HA
    simp only [laws_szSealS.l0] at H
    by_cases c4:x5_1 < (l0.length:Int)
    ·rw [if_pos c4] at H
     have c4b0:decide (x5_1 < (l0.length:Int)) = true:=decide_eq_true c4
     clear c4
     by_cases c5:0 ≤ x5_1
     ·rw [if_pos c5] at H
      have c5b0:decide (0 ≤ x5_1) = true:=decide_eq_true c5
      clear c5
      replace H:=Option.bind_eq_some_iff.mp H
      obtain ⟨t238,A60,H⟩:=H
      replace H:(if t238 < 0 then (some (-1)) else (laws_szSealS.l0 k1 l0 t238 (wrap64 (x5_1 + 1)))) = some r:=H
      have A6:=Aside0.mk A60
      clear A60
      by_cases c7:t238 < 0
      ·rw [if_pos c7] at H
       have c7b0:decide (t238 < 0) = true:=decide_eq_true c7
       clear c7
       obtain rfl:=Option.some.inj H
       have p237:0 ≤ (x5_1:Int):=of_decide_eq_true (by first | (with_reducible assumption) | assumption)
       have q237:x5_1 < (l0.length:Int):=of_decide_eq_true (by first | (with_reducible assumption) | assumption)
       obtain ⟨ad237,A237_2,c237_2,e237,hx237_0,hx237_1,hx237_2,hl237_2,hi237_2⟩:=at_T33 HR0.out x5_1 p237 q237
       cases e237
       replace hx237_0:=(HB.out.cell (World.block_lt_of_cell? w _ hx237_0)).trans hx237_0
       replace hx237_1:=(HB.out.cell (World.block_lt_of_cell? w _ hx237_1)).trans hx237_1
       replace hx237_2:=(HB.out.cell (World.block_lt_of_cell? w _ hx237_2)).trans hx237_2
       have HR237_2:=Aside0.mk hi237_2
       have HC237_2:=Aside0.mk hl237_2
       clear hi237_2 hl237_2
       replace p237:=eq_true p237
       replace q237:=eq_true q237
       go_wp2_with (first | ((with_reducible refine gate_callee (f:=20) rfl ?_);refine goesL_ (some 23) rfl rfl Tryd.func20 (by kernel_rfl) rfl #[.agg #[.int .i64 ((rd_T33 l0 x5_1).f0),.int .i64 ((rd_T33 l0 x5_1).f1),.slice A237_2 ((rd_T33 l0 x5_1).f2).length c237_2],.int .i64 x1_1] rfl (by (try simp only [List.map_toArray,List.map_cons,List.map_nil]);first | done | rfl | (simp only [List.length_drop,List.length_take];rfl)) ?_;(with_reducible refine (laws_szSeal.calls_of k1 (fun j_ hj_=>ih j_ (by first | omega | (have:=HK1.out;omega) | (have:=HK1.out;have:=HK2.out;omega))) ((rd_T33 l0 x5_1).f0) ((rd_T33 l0 x5_1).f1) _ _ ((rd_T33 l0 x5_1).f2) x1_1 t238 _ ?side1 ?side2 A6.out).mono ?_);(case side1=>repeat (first | exact (Kd.C_below HR237_2.out HB.out) | (with_reducible refine Kd.C_alloc ?_ _) | (with_reducible refine Kd.C_drewN ?_ _) | (with_reducible refine Kd.C_drew ?_)));(case side2=>exact HC237_2.out);rintro e w8 ⟨rfl,hb⟩;refine ⟨_,rfl,?_⟩;have n0_:=Aside0.mk (below_step (by repeat (first | (with_reducible first | exact HB.out | apply below_alloc | apply pw_below_drewN | apply below_drew1) | exact HB.out)) hb);clear HB;have HB:=n0_;clear n0_;(try clear hb);(try clear hb2);(try clear hk);(try clear hi)))
       go_ret
       exact ⟨by first | rfl | (simp [errW_none,errW_some] <;> rfl) | (simp [*,errW_none,errW_some] <;> rfl),by repeat (first | (with_reducible first | exact HB.out | apply below_alloc | apply pw_below_drewN | apply below_drew1) | exact HB.out)⟩
      ·rw [if_neg c7] at H
       have c7b0:decide (t238 < 0) = false:=decide_eq_false c7
       clear c7
       have H':=Aside0.mk H
       clear H
       have p237:0 ≤ (x5_1:Int):=of_decide_eq_true (by first | (with_reducible assumption) | assumption)
       have q237:x5_1 < (l0.length:Int):=of_decide_eq_true (by first | (with_reducible assumption) | assumption)
       obtain ⟨ad237,A237_2,c237_2,e237,hx237_0,hx237_1,hx237_2,hl237_2,hi237_2⟩:=at_T33 HR0.out x5_1 p237 q237
       cases e237
       replace hx237_0:=(HB.out.cell (World.block_lt_of_cell? w _ hx237_0)).trans hx237_0
       replace hx237_1:=(HB.out.cell (World.block_lt_of_cell? w _ hx237_1)).trans hx237_1
       replace hx237_2:=(HB.out.cell (World.block_lt_of_cell? w _ hx237_2)).trans hx237_2
       have HR237_2:=Aside0.mk hi237_2
       have HC237_2:=Aside0.mk hl237_2
       clear hi237_2 hl237_2
       replace p237:=eq_true p237
       replace q237:=eq_true q237
       go_wp2_with (first | ((with_reducible refine gate_callee (f:=20) rfl ?_);refine goesL_ (some 23) rfl rfl Tryd.func20 (by kernel_rfl) rfl #[.agg #[.int .i64 ((rd_T33 l0 x5_1).f0),.int .i64 ((rd_T33 l0 x5_1).f1),.slice A237_2 ((rd_T33 l0 x5_1).f2).length c237_2],.int .i64 x1_1] rfl (by (try simp only [List.map_toArray,List.map_cons,List.map_nil]);first | done | rfl | (simp only [List.length_drop,List.length_take];rfl)) ?_;(with_reducible refine (laws_szSeal.calls_of k1 (fun j_ hj_=>ih j_ (by first | omega | (have:=HK1.out;omega) | (have:=HK1.out;have:=HK2.out;omega))) ((rd_T33 l0 x5_1).f0) ((rd_T33 l0 x5_1).f1) _ _ ((rd_T33 l0 x5_1).f2) x1_1 t238 _ ?side1 ?side2 A6.out).mono ?_);(case side1=>repeat (first | exact (Kd.C_below HR237_2.out HB.out) | (with_reducible refine Kd.C_alloc ?_ _) | (with_reducible refine Kd.C_drewN ?_ _) | (with_reducible refine Kd.C_drew ?_)));(case side2=>exact HC237_2.out);rintro e w9 ⟨rfl,hb⟩;refine ⟨_,rfl,?_⟩;have n0_:=Aside0.mk (below_step (by repeat (first | (with_reducible first | exact HB.out | apply below_alloc | apply pw_below_drewN | apply below_drew1) | exact HB.out)) hb);clear HB;have HB:=n0_;clear n0_;(try clear hb);(try clear hb2);(try clear hk);(try clear hi)))
       go_roundg k1
       case measure=>have:=HK1.out;omega
       case rel=>exact ⟨(t238),(wrap64 (x5_1 + 1)),(by first | rfl | (simp;done) | (simp [*];done)),(by first | rfl | (simp;done) | (simp [*];done)),H',⟨by have:=HK1.out;omega⟩,⟨by repeat (first | (with_reducible first | exact HB.out | apply below_alloc | apply pw_below_drewN | apply below_drew1) | exact HB.out)⟩⟩
     ·rw [if_neg c5] at H
      exact absurd H (by simp)
    ·rw [if_neg c4] at H
     have c4b0:decide (x5_1 < (l0.length:Int)) = false:=decide_eq_false c4
     clear c4
     obtain rfl:=Option.some.inj H
     go_wp2
     go_ret
     exact ⟨by first | rfl | (simp [errW_none,errW_some] <;> rfl) | (simp [*,errW_none,errW_some] <;> rfl),by repeat (first | (with_reducible first | exact HB.out | apply below_alloc | apply pw_below_drewN | apply below_drew1) | exact HB.out)⟩
theorem laws_szSeal.calls (k:Nat) (a0_0:Int) (a0_1:Int) (A0_2:Option Addr) (c0_2:Nat) (l0_2:List (S33)) (a1:Int) (r:Int) (w:World) (hr0_2:Kd.C k33 w A0_2 l0_2.length l0_2) (hc0_2:l0_2.length ≤ c0_2) (h:laws_szSeal.f k a0_0 a0_1 l0_2 a1 = some r) :
  Calls Tryd.prog 20 #[.agg #[.int .i64 a0_0,.int .i64 a0_1,.slice A0_2 l0_2.length c0_2],.int .i64 a1] w fun e w'=>e = .returned (.int .i64 r)∧Below w.heap.size w w':=laws_szSeal.calls_of k (fun j_ _=>laws_szSealS.calls j_) a0_0 a0_1 A0_2 c0_2 l0_2 a1 r w hr0_2 hc0_2 h
def laws_toSeal.body (g:List (S33) → Option ((List (S25)))) (a0_0:Int) (a0_1:Int) (l0_2:List (S33)):Option (Int × Int × (List (S25))):=(g l0_2).bind fun t270=>(some (a0_0,a0_1,t270))
theorem laws_toSeal.body_mono {g g':List (S33) → Option ((List (S25)))} (hg:∀ y0,LeO (g y0) (g' y0)):∀ a0_0 a0_1 l0_2,LeO (laws_toSeal.body g a0_0 a0_1 l0_2) (laws_toSeal.body g' a0_0 a0_1 l0_2):=by
 intro a0_0 a0_1 l0_2
 unfold laws_toSeal.body
 repeat' first
   | (with_reducible exact hg _)
   | (with_reducible exact LeO.refl _)
   | (with_reducible exact LeO.none _)
   | (with_reducible refine LeO.ite ?_ ?_)
   | (with_reducible refine LeO.bind ?_ (fun _=>?_))
   | exact hg _
   | exact LeO.none _
   | refine LeO.ite ?_ ?_
   | refine LeO.bind ?_ (fun _=>?_)
mutual
def laws_toSealS.l0:Nat → List (S33) → List (S25) → Int → Option ((List (S25)))
 | 0,_,_,_=>none
 | k + 1,x0,x3,x4=>if x4 < (x0.length:Int) then (if 0 ≤ x4 then ((laws_toSeal.body (fun y0=>laws_toSealS.f k y0) ((rd_T33 x0 x4).f0) ((rd_T33 x0 x4).f1) ((rd_T33 x0 x4).f2)).bind fun bt261=>(if x4 < (x3.length:Int) then (laws_toSealS.l0 k x0 (x3.set (x4:Int).toNat (⟨bt261.1,bt261.2.1,bt261.2.2⟩:S25)) (wrap64 (x4 + 1))) else (none))) else (none)) else (some x3)
def laws_toSealS.f:Nat → List (S33) → Option ((List (S25)))
 | 0,_=>none
 | k + 1,l0=>if 0 ≤ (l0.length:Int) then (if ((l0.length:Int):Int).toNat ≤ 7036874417766 then (laws_toSealS.l0 k l0 (List.replicate ((l0.length:Int):Int).toNat z25) 0) else (none)) else (none)
end
abbrev laws_toSeal.f (k:Nat) (a0_0:Int) (a0_1:Int) (l0_2:List (S33)):Option (Int × Int × (List (S25))):=laws_toSeal.body (fun y0=>laws_toSealS.f k y0) a0_0 a0_1 l0_2
theorem laws_toSealS.mono_l:∀ k,(∀ y0,LeO (laws_toSealS.f k y0) (laws_toSealS.f (k + 1) y0))∧(∀ y0 y1 y2,LeO (laws_toSealS.l0 k y0 y1 y2) (laws_toSealS.l0 (k + 1) y0 y1 y2))
 | 0=>⟨fun _ r h=>by simp [laws_toSealS.f] at h,fun _ _ _ r h=>by simp [laws_toSealS.l0] at h⟩
 | k + 1=>by
  obtain ⟨ih0,ih1⟩:=laws_toSealS.mono_l k
  refine ⟨?_,?_⟩
  ·intro y0
   unfold laws_toSealS.f
   repeat' first
   | (with_reducible exact ih0 _)
   | (with_reducible exact ih1 _ _ _)
   | (with_reducible exact laws_toSeal.body_mono (fun y0=>ih0 y0) _ _ _)
   | (with_reducible exact LeO.refl _)
   | (with_reducible exact LeO.none _)
   | (with_reducible refine LeO.ite ?_ ?_)
   | (with_reducible refine LeO.bind ?_ (fun _=>?_))
   | exact ih0 _
   | exact ih1 _ _ _
   | exact LeO.none _
   | refine LeO.ite ?_ ?_
   | refine LeO.bind ?_ (fun _=>?_)
  ·intro y0 y1 y2
   unfold laws_toSealS.l0
   repeat' first
   | (with_reducible exact ih0 _)
   | (with_reducible exact ih1 _ _ _)
   | (with_reducible exact laws_toSeal.body_mono (fun y0=>ih0 y0) _ _ _)
   | (with_reducible exact LeO.refl _)
   | (with_reducible exact LeO.none _)
   | (with_reducible refine LeO.ite ?_ ?_)
   | (with_reducible refine LeO.bind ?_ (fun _=>?_))
   | exact ih0 _
   | exact ih1 _ _ _
   | exact LeO.none _
   | refine LeO.ite ?_ ?_
   | refine LeO.bind ?_ (fun _=>?_)
theorem laws_toSealS.mono:∀ a0 k,LeO (laws_toSealS.f k a0) (laws_toSealS.f (k + 1) a0):=by
 intro a0 k
 obtain ⟨ih0,ih1⟩:=laws_toSealS.mono_l k
 exact ih0 a0
theorem laws_toSeal.mono:∀ a0_0 a0_1 l0_2 k,LeO (laws_toSeal.f k a0_0 a0_1 l0_2) (laws_toSeal.f (k + 1) a0_0 a0_1 l0_2):=fun a0_0 a0_1 l0_2 k=>laws_toSeal.body_mono (fun y0=>laws_toSealS.mono y0 k) a0_0 a0_1 l0_2
abbrev laws_toSealS.Con (k:Nat):Prop:=∀ (A0:Option Addr) (c0:Nat) (l0:List (S33)) (r:List (S25)) (w:World) (hr0:Kd.C k33 w A0 l0.length l0) (hc0:l0.length ≤ c0) (h:laws_toSealS.f k l0 = some r),
  Calls Tryd.prog 27 #[.slice A0 l0.length c0] w fun e w'=>∃ v0_:Value,e = .returned (v0_)∧Kd.R k25 25 w' w.heap.size (fun _=>True) v0_ r∧Below w.heap.size w w'
set_option maxHeartbeats 8000000 in
set_option maxRecDepth 100000 in
theorem laws_toSeal.calls_of (k:Nat) (ihS:∀ j_,j_ ≤ k → laws_toSealS.Con j_) (a0_0:Int) (a0_1:Int) (A0_2:Option Addr) (c0_2:Nat) (l0_2:List (S33)) (r1:Int) (r2:Int) (r3:List (S25)) (w:World) (hr0_2:Kd.C k33 w A0_2 l0_2.length l0_2) (hc0_2:l0_2.length ≤ c0_2) (h:laws_toSeal.f k a0_0 a0_1 l0_2 = some (r1,r2,r3)) :
  Calls Tryd.prog 21 #[.agg #[.int .i64 a0_0,.int .i64 a0_1,.slice A0_2 l0_2.length c0_2]] w fun e w'=>∃ v2_:Value,e = .returned (.agg #[.int .i64 r1,.int .i64 r2,v2_])∧Kd.R k25 25 w' w.heap.size (fun _=>True) v2_ r3∧Below w.heap.size w w':=by
 have hu33:=Tryd.underlying33
 have hu25:=Tryd.underlying25
 have HR0_2:=Aside0.mk hr0_2
 have HC0_2:=Aside0.mk hc0_2
 clear hr0_2 hc0_2
 have HB:=Aside0.mk (Below.refl w.heap.size w)
 have H:((laws_toSealS.f k l0_2).bind fun t270=>(some (a0_0,a0_1,t270))) = some (r1,r2,r3):=h
 clear h
 replace H:=Option.bind_eq_some_iff.mp H
 obtain ⟨t270,A20,H⟩:=H
 replace H:(some (a0_0,a0_1,t270)) = some (r1,r2,r3):=H
 have A2:=Aside0.mk A20
 clear A20
 simp only [Option.some.injEq,Prod.mk.injEq] at H
 obtain ⟨rfl,rfl,rfl⟩:=H
 go_enter Tryd.func21,Tryd.ntmps21
 go_wp2_with (first | ((with_reducible refine gate_dst (N:=1) rfl ?_);refine box_event ?hg (N:=1) ?hd (cs:=#[.int .i64 a0_0,.int .i64 a0_1,.slice A0_2 l0_2.length c0_2]) (t:=33) ?hr ?_;(case hd=>rfl);(case hg=>rfl);(case hr=>first | (go_simp;done) | (go_simp;rfl));intro gb267 hg w3 hbox hb;have n0_:=Aside0.mk (below_step (by repeat (first | (with_reducible first | exact HB.out | apply below_alloc | apply pw_below_drewN | apply below_drew1) | exact HB.out)) hb);have n1_:=Aside0.mk (hbox);have n2_:=Aside0.mk ((by rw [hg];exact (below_size (by repeat (first | (with_reducible first | exact HB.out | apply below_alloc | apply pw_below_drewN | apply below_drew1) | exact HB.out))):w.heap.size ≤ gb267));have n3_:=Aside0.mk ((by rw [hg];exact (below_size (by repeat (first | (with_reducible first | exact HB.out | apply below_alloc | apply pw_below_drewN | apply below_drew1) | exact HB.out))):w.heap.size ≤ gb267));clear HB;have HB:=n0_;have BK267:=n1_;have GW267:=n2_;have GE267:=n3_;clear n0_ n1_ n2_ n3_;clear hb hbox hg) | ((with_reducible refine gate_dst (N:=2) rfl ?_);refine box_event ?hg (N:=2) ?hd (cs:=#[.int .i64 0,.int .i64 0,.slice none 0 0]) (t:=25) ?hr ?_;(case hd=>rfl);(case hg=>rfl);(case hr=>first | (go_simp;done) | (go_simp;rfl));intro gb268 hg w4 hbox hb;have n0_:=Aside0.mk (blk_below (g:=gb267) (o:=.cells #[.int .i64 a0_0,.int .i64 a0_1,.slice A0_2 l0_2.length c0_2] 33 (0,0)) (by (with_reducible repeat (first | refine blk_drewN ?_ _ | refine blk_drew ?_ | refine blk_alloc ?_ _));exact BK267.out) hb);have n1_:=Aside0.mk (below_step (by repeat (first | (with_reducible first | exact HB.out | apply below_alloc | apply pw_below_drewN | apply below_drew1 | refine below_set ?_ GE267.out) | exact HB.out)) hb);have n2_:=Aside0.mk (hbox);have n3_:=Aside0.mk ((by rw [hg];exact (below_size (by repeat (first | (with_reducible first | exact HB.out | apply below_alloc | apply pw_below_drewN | apply below_drew1 | refine below_set ?_ GE267.out) | exact HB.out))):w.heap.size ≤ gb268));have n4_:=Aside0.mk ((by rw [hg];exact (below_size (by repeat (first | (with_reducible first | exact HB.out | apply below_alloc | apply pw_below_drewN | apply below_drew1 | refine below_set ?_ GE267.out) | exact HB.out))):w.heap.size ≤ gb268));have n5_:=Aside0.mk ((by rw [hg];exact Nat.ne_of_lt (blk_lt (g:=gb267) (o:=.cells #[.int .i64 a0_0,.int .i64 a0_1,.slice A0_2 l0_2.length c0_2] 33 (0,0)) (by (with_reducible repeat (first | refine blk_drewN ?_ _ | refine blk_drew ?_ | refine blk_alloc ?_ _));exact BK267.out)):gb267 ≠ gb268));have n6_:=Aside0.mk ((by rw [hg];exact Nat.ne_of_gt (blk_lt (g:=gb267) (o:=.cells #[.int .i64 a0_0,.int .i64 a0_1,.slice A0_2 l0_2.length c0_2] 33 (0,0)) (by (with_reducible repeat (first | refine blk_drewN ?_ _ | refine blk_drew ?_ | refine blk_alloc ?_ _));exact BK267.out)):gb268 ≠ gb267));clear BK267;clear HB;have BK267:=n0_;have HB:=n1_;have BK268:=n2_;have GW268:=n3_;have GE268:=n4_;have NB267_268:=n5_;have NB268_267:=n6_;clear n0_ n1_ n2_ n3_ n4_ n5_ n6_;clear hb hbox hg) | ((with_reducible refine gate_dst (N:=3) rfl ?_);refine box_event ?hg (N:=3) ?hd (cs:=#[.int .i64 0,.int .i64 0,.slice none 0 0]) (t:=25) ?hr ?_;(case hd=>rfl);(case hg=>rfl);(case hr=>first | (go_simp;done) | (go_simp;rfl));intro gb269 hg w5 hbox hb;have n0_:=Aside0.mk (blk_below (g:=gb267) (o:=.cells #[.int .i64 a0_0,.int .i64 a0_1,.slice A0_2 l0_2.length c0_2] 33 (0,0)) (by (with_reducible repeat (first | refine blk_drewN ?_ _ | refine blk_drew ?_ | refine blk_alloc ?_ _));exact BK267.out) hb);have n1_:=Aside0.mk (blk_below (g:=gb268) (o:=.cells #[.int .i64 0,.int .i64 0,.slice none 0 0] 25 (0,0)) (by (with_reducible repeat (first | refine blk_drewN ?_ _ | refine blk_drew ?_ | refine blk_alloc ?_ _));exact BK268.out) hb);have n2_:=Aside0.mk (below_step (by repeat (first | (with_reducible first | exact HB.out | apply below_alloc | apply pw_below_drewN | apply below_drew1 | refine below_set ?_ GE267.out | refine below_set ?_ GE268.out) | exact HB.out)) hb);have n3_:=Aside0.mk (hbox);have n4_:=Aside0.mk ((by rw [hg];exact (below_size (by repeat (first | (with_reducible first | exact HB.out | apply below_alloc | apply pw_below_drewN | apply below_drew1 | refine below_set ?_ GE267.out | refine below_set ?_ GE268.out) | exact HB.out))):w.heap.size ≤ gb269));have n5_:=Aside0.mk ((by rw [hg];exact (below_size (by repeat (first | (with_reducible first | exact HB.out | apply below_alloc | apply pw_below_drewN | apply below_drew1 | refine below_set ?_ GE267.out | refine below_set ?_ GE268.out) | exact HB.out))):w.heap.size ≤ gb269));have n6_:=Aside0.mk ((by rw [hg];exact Nat.ne_of_lt (blk_lt (g:=gb267) (o:=.cells #[.int .i64 a0_0,.int .i64 a0_1,.slice A0_2 l0_2.length c0_2] 33 (0,0)) (by (with_reducible repeat (first | refine blk_drewN ?_ _ | refine blk_drew ?_ | refine blk_alloc ?_ _));exact BK267.out)):gb267 ≠ gb269));have n7_:=Aside0.mk ((by rw [hg];exact Nat.ne_of_gt (blk_lt (g:=gb267) (o:=.cells #[.int .i64 a0_0,.int .i64 a0_1,.slice A0_2 l0_2.length c0_2] 33 (0,0)) (by (with_reducible repeat (first | refine blk_drewN ?_ _ | refine blk_drew ?_ | refine blk_alloc ?_ _));exact BK267.out)):gb269 ≠ gb267));have n8_:=Aside0.mk ((by rw [hg];exact Nat.ne_of_lt (blk_lt (g:=gb268) (o:=.cells #[.int .i64 0,.int .i64 0,.slice none 0 0] 25 (0,0)) (by (with_reducible repeat (first | refine blk_drewN ?_ _ | refine blk_drew ?_ | refine blk_alloc ?_ _));exact BK268.out)):gb268 ≠ gb269));have n9_:=Aside0.mk ((by rw [hg];exact Nat.ne_of_gt (blk_lt (g:=gb268) (o:=.cells #[.int .i64 0,.int .i64 0,.slice none 0 0] 25 (0,0)) (by (with_reducible repeat (first | refine blk_drewN ?_ _ | refine blk_drew ?_ | refine blk_alloc ?_ _));exact BK268.out)):gb269 ≠ gb268));clear BK267;clear BK268;clear HB;have BK267:=n0_;have BK268:=n1_;have HB:=n2_;have BK269:=n3_;have GW269:=n4_;have GE269:=n5_;have NB267_269:=n6_;have NB269_267:=n7_;have NB268_269:=n8_;have NB269_268:=n9_;clear n0_ n1_ n2_ n3_ n4_ n5_ n6_ n7_ n8_ n9_;clear hb hbox hg;have hnb6:=NB267_268.out;have hnc6:=NB268_267.out;have hnb7:=NB267_269.out;have hnc7:=NB269_267.out;have hcz8_0:w5.cell? ⟨gb267,0,none⟩ = some (.int .i64 a0_0):=(blk_cell BK267.out 0).trans rfl;have hcz8_1:w5.cell? ⟨gb267,1,none⟩ = some (.int .i64 a0_1):=(blk_cell BK267.out 1).trans rfl;have hcz8_2:w5.cell? ⟨gb267,2,none⟩ = some (.slice A0_2 l0_2.length c0_2):=(blk_cell BK267.out 2).trans rfl;have hfz8_0:=blk_frozen BK267.out 0;have hfz8_1:=blk_frozen BK267.out 1;have hfz8_2:=blk_frozen BK267.out 2;have hnb9:=NB269_268.out;have hnc9:=NB268_269.out;have hcz10_0:w5.cell? ⟨gb269,0,none⟩ = some (.int .i64 0):=(blk_cell BK269.out 0).trans rfl;have hcz10_1:w5.cell? ⟨gb269,1,none⟩ = some (.int .i64 0):=(blk_cell BK269.out 1).trans rfl;have hcz10_2:w5.cell? ⟨gb269,2,none⟩ = some (.slice none 0 0):=(blk_cell BK269.out 2).trans rfl;have hfz10_0:=blk_frozen BK269.out 0;have hfz10_1:=blk_frozen BK269.out 1;have hfz10_2:=blk_frozen BK269.out 2) | ((with_reducible refine gate_callee (f:=27) rfl ?_);refine goesL_ (some 12) rfl rfl Tryd.func27 (by kernel_rfl) rfl #[.slice A0_2 l0_2.length c0_2] rfl (by (try simp only [List.map_toArray,List.map_cons,List.map_nil]);first | done | rfl | (simp only [List.length_drop,List.length_take];rfl)) ?_;(with_reducible refine (ihS k (Nat.le_refl _) _ _ l0_2 t270 _ ?side1 ?side2 A2.out).mono ?_);(case side1=>exact Kd.C_below HR0_2.out (by repeat (first | (with_reducible first | exact HB.out | apply below_alloc | apply pw_below_drewN | apply below_drew1 | refine below_set ?_ GE267.out | refine below_set ?_ GE268.out | refine below_set ?_ GE269.out) | exact HB.out)));(case side2=>exact HC0_2.out);rintro e w11 ⟨v271,rfl,ho0,hb⟩;refine ⟨_,rfl,?_⟩;have n0_:=Aside0.mk (Kd.R_lower (Kd.R_newB (Kd.R_newB ho0 (g:=gb268) (o:=.cells #[.int .i64 0,.int .i64 0,.slice none 0 0] 25 (0,0)) (by (with_reducible repeat (first | refine blk_drewN ?_ _ | refine blk_drew ?_ | refine blk_alloc ?_ _));refine blk_far ?_ NB268_269.out _;(with_reducible repeat (first | refine blk_drewN ?_ _ | refine blk_drew ?_ | refine blk_alloc ?_ _));refine blk_far ?_ NB268_269.out _;(with_reducible repeat (first | refine blk_drewN ?_ _ | refine blk_drew ?_ | refine blk_alloc ?_ _));exact BK268.out)) (g:=gb269) (o:=.cells #[.int .i64 a0_0,.int .i64 a0_1,.slice none 0 0] 25 (0,0)) (by (with_reducible repeat (first | refine blk_drewN ?_ _ | refine blk_drew ?_ | refine blk_alloc ?_ _));refine blk_put (cs:=#[.int .i64 a0_0,.int .i64 0,.slice none 0 0]) ?_ 1 _ rfl;(with_reducible repeat (first | refine blk_drewN ?_ _ | refine blk_drew ?_ | refine blk_alloc ?_ _));refine blk_put (cs:=#[.int .i64 0,.int .i64 0,.slice none 0 0]) ?_ 0 _ rfl;(with_reducible repeat (first | refine blk_drewN ?_ _ | refine blk_drew ?_ | refine blk_alloc ?_ _));exact BK269.out)) (below_size (by repeat (first | (with_reducible first | exact HB.out | apply below_alloc | apply pw_below_drewN | apply below_drew1 | refine below_set ?_ GE267.out | refine below_set ?_ GE268.out | refine below_set ?_ GE269.out) | exact HB.out))));have n1_:=Aside0.mk (blk_below (g:=gb267) (o:=.cells #[.int .i64 a0_0,.int .i64 a0_1,.slice A0_2 l0_2.length c0_2] 33 (0,0)) (by (with_reducible repeat (first | refine blk_drewN ?_ _ | refine blk_drew ?_ | refine blk_alloc ?_ _));refine blk_far ?_ NB267_269.out _;(with_reducible repeat (first | refine blk_drewN ?_ _ | refine blk_drew ?_ | refine blk_alloc ?_ _));refine blk_far ?_ NB267_269.out _;(with_reducible repeat (first | refine blk_drewN ?_ _ | refine blk_drew ?_ | refine blk_alloc ?_ _));exact BK267.out) hb);have n2_:=Aside0.mk (blk_below (g:=gb268) (o:=.cells #[.int .i64 0,.int .i64 0,.slice none 0 0] 25 (0,0)) (by (with_reducible repeat (first | refine blk_drewN ?_ _ | refine blk_drew ?_ | refine blk_alloc ?_ _));refine blk_far ?_ NB268_269.out _;(with_reducible repeat (first | refine blk_drewN ?_ _ | refine blk_drew ?_ | refine blk_alloc ?_ _));refine blk_far ?_ NB268_269.out _;(with_reducible repeat (first | refine blk_drewN ?_ _ | refine blk_drew ?_ | refine blk_alloc ?_ _));exact BK268.out) hb);have n3_:=Aside0.mk (blk_below (g:=gb269) (o:=.cells #[.int .i64 a0_0,.int .i64 a0_1,.slice none 0 0] 25 (0,0)) (by (with_reducible repeat (first | refine blk_drewN ?_ _ | refine blk_drew ?_ | refine blk_alloc ?_ _));refine blk_put (cs:=#[.int .i64 a0_0,.int .i64 0,.slice none 0 0]) ?_ 1 _ rfl;(with_reducible repeat (first | refine blk_drewN ?_ _ | refine blk_drew ?_ | refine blk_alloc ?_ _));refine blk_put (cs:=#[.int .i64 0,.int .i64 0,.slice none 0 0]) ?_ 0 _ rfl;(with_reducible repeat (first | refine blk_drewN ?_ _ | refine blk_drew ?_ | refine blk_alloc ?_ _));exact BK269.out) hb);have n4_:=Aside0.mk (below_step (by repeat (first | (with_reducible first | exact HB.out | apply below_alloc | apply pw_below_drewN | apply below_drew1 | refine below_set ?_ GE267.out | refine below_set ?_ GE268.out | refine below_set ?_ GE269.out) | exact HB.out)) hb);clear BK267;clear BK268;clear BK269;clear HB;have HO272:=n0_;have BK267:=n1_;have BK268:=n2_;have BK269:=n3_;have HB:=n4_;clear n0_ n1_ n2_ n3_ n4_;(try clear hb);(try clear hb2);(try clear hk);(try clear hi);(try clear ho0);obtain ⟨Ao12,co12,eo12⟩:=Kd.R_slice HO272.out;subst eo12;have hcz13_0:w11.cell? ⟨gb269,0,none⟩ = some (.int .i64 a0_0):=(blk_cell BK269.out 0).trans rfl;have hcz13_1:w11.cell? ⟨gb269,1,none⟩ = some (.int .i64 a0_1):=(blk_cell BK269.out 1).trans rfl;have hcz13_2:w11.cell? ⟨gb269,2,none⟩ = some (.slice none 0 0):=(blk_cell BK269.out 2).trans rfl;have hfz13_0:=blk_frozen BK269.out 0;have hfz13_1:=blk_frozen BK269.out 1;have hfz13_2:=blk_frozen BK269.out 2;have hcz14_0:w11.cell? ⟨gb268,0,none⟩ = some (.int .i64 0):=(blk_cell BK268.out 0).trans rfl;have hcz14_1:w11.cell? ⟨gb268,1,none⟩ = some (.int .i64 0):=(blk_cell BK268.out 1).trans rfl;have hcz14_2:w11.cell? ⟨gb268,2,none⟩ = some (.slice none 0 0):=(blk_cell BK268.out 2).trans rfl;have hfz14_0:=blk_frozen BK268.out 0;have hfz14_1:=blk_frozen BK268.out 1;have hfz14_2:=blk_frozen BK268.out 2))
 refine bodyPost_ret (results_cell_row rfl _ _ gb268 25 #[.int .i64 a0_0,.int .i64 a0_1,.slice Ao12 t270.length co12] (0,0) _ rfl (by (with_reducible repeat (first | refine blk_drewN ?_ _ | refine blk_drew ?_ | refine blk_alloc ?_ _));refine blk_put (cs:=#[.int .i64 a0_0,.int .i64 a0_1,.slice none 0 0]) ?_ 2 _ rfl;(with_reducible repeat (first | refine blk_drewN ?_ _ | refine blk_drew ?_ | refine blk_alloc ?_ _));refine blk_put (cs:=#[.int .i64 a0_0,.int .i64 0,.slice none 0 0]) ?_ 1 _ rfl;(with_reducible repeat (first | refine blk_drewN ?_ _ | refine blk_drew ?_ | refine blk_alloc ?_ _));refine blk_put (cs:=#[.int .i64 0,.int .i64 0,.slice none 0 0]) ?_ 0 _ rfl;(with_reducible repeat (first | refine blk_drewN ?_ _ | refine blk_drew ?_ | refine blk_alloc ?_ _));refine blk_far ?_ NB268_269.out _;(with_reducible repeat (first | refine blk_drewN ?_ _ | refine blk_drew ?_ | refine blk_alloc ?_ _));exact BK268.out) Tryd.underlying25 rfl (by kernel_rfl)) rfl ?_
 exact ⟨_,by first | rfl | (simp [errW_none,errW_some] <;> rfl) | (simp [*,errW_none,errW_some] <;> rfl),by (with_reducible repeat (first | apply Kd.R_alloc | apply Kd.R_drewN | apply Kd.R_drew));exact Kd.R_mono (Kd.R_far (p:=⟨gb268,2,none⟩) (Kd.R_far (p:=⟨gb268,1,none⟩) (Kd.R_far (p:=⟨gb268,0,none⟩) (Kd.R_far (p:=⟨gb269,2,none⟩) (Kd.R_mono (Kd.R_mono HO272.out (fun k_ hk=>(⟨hk,hk.2⟩:_∧k_ ≠ gb269))) (fun k_ hk=>(⟨hk,hk.1.1.2⟩:_∧k_ ≠ gb268))) (fun _ hk=>hk.1.2) (.slice Ao12 t270.length co12)) (fun _ hk=>hk.2) (.int .i64 a0_0)) (fun _ hk=>hk.2) (.int .i64 a0_1)) (fun _ hk=>hk.2) (.slice Ao12 t270.length co12)) (fun _ hk=>trivial),by repeat (first | (with_reducible first | exact HB.out | apply below_alloc | apply pw_below_drewN | apply below_drew1 | refine below_set ?_ GE267.out | refine below_set ?_ GE268.out | refine below_set ?_ GE269.out) | exact HB.out)⟩
set_option maxHeartbeats 8000000 in
set_option maxRecDepth 100000 in
theorem laws_toSealS.calls (k:Nat):∀ (A0:Option Addr) (c0:Nat) (l0:List (S33)) (r:List (S25)) (w:World) (hr0:Kd.C k33 w A0 l0.length l0) (hc0:l0.length ≤ c0) (h:laws_toSealS.f k l0 = some r),
  Calls Tryd.prog 27 #[.slice A0 l0.length c0] w fun e w'=>∃ v0_:Value,e = .returned (v0_)∧Kd.R k25 25 w' w.heap.size (fun _=>True) v0_ r∧Below w.heap.size w w':=by
 induction k using Nat.strongRecOn with
 | _ k ih =>
 intro A0 c0 l0 r w hr0 hc0 h
 cases k with
 | zero=>exact absurd h (by simp [laws_toSealS.f])
 | succ k =>
 simp only [laws_toSealS.f] at h
 have hu33:=Tryd.underlying33
 have hu25:=Tryd.underlying25
 have HR0:=Aside0.mk hr0
 have HC0:=Aside0.mk hc0
 clear hr0 hc0
 have HB:=Aside0.mk (Below.refl w.heap.size w)
 have H:(if 0 ≤ (l0.length:Int) then (if ((l0.length:Int):Int).toNat ≤ 7036874417766 then (laws_toSealS.l0 k l0 (List.replicate ((l0.length:Int):Int).toNat z25) 0) else (none)) else (none)) = some r:=h
 clear h
 by_cases c2:0 ≤ (l0.length:Int)
 ·rw [if_pos c2] at H
  have c2b0:=eq_true c2
  have c2b1:decide (0 ≤ (l0.length:Int)) = true:=decide_eq_true c2
  clear c2
  by_cases c3:((l0.length:Int):Int).toNat ≤ 7036874417766
  ·rw [if_pos c3] at H
   have c3b0:=eq_true c3
   have c3b1:decide (((l0.length:Int):Int).toNat ≤ 7036874417766) = true:=decide_eq_true c3
   clear c3
   obtain ⟨y257,hy257⟩:∃ y_:List (S25),y_ = (List.replicate ((l0.length:Int):Int).toNat z25):=⟨_,rfl⟩
   replace H:(laws_toSealS.l0 k l0 y257 0) = some r:=by first | (rw [hy257];with_reducible exact H) | (have H2_:=(Option.bind_some _ _).symm.trans H;rw [hy257];with_reducible exact H2_) | (have H2_:=(Option.bind_some _ _).symm.trans H;with_reducible exact H2_) | with_reducible exact H | (rw [hy257];exact H) | exact H
   have Ny257:=Aside0.mk hy257
   clear hy257
   have H':=Aside0.mk H
   clear H
   go_enter Tryd.func27,Tryd.ntmps27
   go_wp2_with (first | ((with_reducible refine gate_dst (N:=7) rfl ?_);refine Kd.R_make k25 _ 25 rfl (N:=7) rfl 23 _ _ rfl (l0.length:Int) rfl rfl Tryd.underlying23 (.agg #[(.int .i64 0),(.int .i64 0),(.slice none 0 0)]) 40 info25 rfl (by decide) (by omega) z25 (ok:=fun _=>True) (okp:=fun _=>True) (k25_mkM _ _ _ z25 (Kd.R_nil _ _ _ _ _)) (fun _ hk=>hk) trivial (of_decide_eq_true (by first | (with_reducible assumption) | assumption)) (Nat.le_trans (Nat.mul_le_mul_right _ (of_decide_eq_true (by first | (with_reducible assumption) | assumption):(l0.length:Int).toNat ≤ 7036874417766)) (by omega)) (Below.refl _ _) (Nat.le_refl _) ?_;intro v258 w4 ho5 hb hg_ hnew_;clear hg_ hnew_;(first | rw [← Ny257.out] at ho5 | (simp only [Int.reduceToNat] at ho5;rw [← Ny257.out] at ho5));have n0_:=Aside0.mk (Kd.R_lower ho5 (below_size (by repeat (first | (with_reducible first | exact HB.out | apply below_alloc | apply pw_below_drewN | apply below_drew1) | exact HB.out))));have n1_:=Aside0.mk (below_step (by repeat (first | (with_reducible first | exact HB.out | apply below_alloc | apply pw_below_drewN | apply below_drew1) | exact HB.out)) hb);clear HB;have HO259:=n0_;have HB:=n1_;clear n0_ n1_;clear hb ho5))
   go_loopg [4] k (fun kq v4 w'=>∃ (x3_1:List (S25)) (x4_1:Int),v4 = .int .i64 x4_1∧Aside0 (laws_toSealS.l0 kq l0 x3_1 x4_1 = some r)∧Aside0 (kq ≤ k)∧Aside0 (Kd.R k25 25 w' w.heap.size (fun _=>True) v258 x3_1)∧Aside0 (Below w.heap.size w w'))
   case atStart=>exact ⟨(y257),(0),(by first | rfl | (simp;done) | (simp [*];done)),H',⟨Nat.le_refl _⟩,⟨by (with_reducible repeat (first | apply Kd.R_alloc | apply Kd.R_drewN | apply Kd.R_drew));exact HO259.out⟩,⟨by repeat (first | (with_reducible first | exact HB.out | apply below_alloc | apply pw_below_drewN | apply below_drew1) | exact HB.out)⟩⟩
   case round =>
    clear H'
    try clear c2
    try clear c2b0
    try clear c2b1
    try clear p2
    try clear c3
    try clear c3b0
    try clear c3b1
    obtain ⟨x3_1,x4_1,rfl,HA,HK1,HO_3,HB⟩:=hrel
    cases gk with
    | zero=>exact absurd HA.out (by simp [laws_toSealS.l0])
    | succ k1 =>
     have H:=HA.out
     clear HA
     simp only [laws_toSealS.l0] at H
     by_cases c6:x4_1 < (l0.length:Int)
     ·rw [if_pos c6] at H
      have c6b0:decide (x4_1 < (l0.length:Int)) = true:=decide_eq_true c6
      clear c6
      by_cases c7:0 ≤ x4_1
      ·rw [if_pos c7] at H
       have c7b0:decide (0 ≤ x4_1) = true:=decide_eq_true c7
       clear c7
       replace H:=Option.bind_eq_some_iff.mp H
       obtain ⟨⟨t261,t262,t263⟩,A80,H⟩:=H
       replace H:(if x4_1 < (x3_1.length:Int) then (laws_toSealS.l0 k1 l0 (x3_1.set (x4_1:Int).toNat (⟨t261,t262,t263⟩:S25)) (wrap64 (x4_1 + 1))) else (none)) = some r:=H
       have A8:=Aside0.mk A80
       clear A80
       by_cases c9:x4_1 < (x3_1.length:Int)
       ·rw [if_pos c9] at H
        have c9b0:decide (x4_1 < (x3_1.length:Int)) = true:=decide_eq_true c9
        clear c9
        obtain ⟨y266,hy266⟩:∃ y_:List (S25),y_ = (x3_1.set (x4_1:Int).toNat (⟨t261,t262,t263⟩:S25)):=⟨_,rfl⟩
        replace H:(laws_toSealS.l0 k1 l0 y266 (wrap64 (x4_1 + 1))) = some r:=by first | (rw [hy266];with_reducible exact H) | (have H2_:=(Option.bind_some _ _).symm.trans H;rw [hy266];with_reducible exact H2_) | (have H2_:=(Option.bind_some _ _).symm.trans H;with_reducible exact H2_) | with_reducible exact H | (rw [hy266];exact H) | exact H
        have Ny266:=Aside0.mk hy266
        clear hy266
        have H':=Aside0.mk H
        clear H
        have p260:0 ≤ (x4_1:Int):=of_decide_eq_true (by first | (with_reducible assumption) | assumption)
        have q260:x4_1 < (l0.length:Int):=of_decide_eq_true (by first | (with_reducible assumption) | assumption)
        obtain ⟨ad260,A260_2,c260_2,e260,hx260_0,hx260_1,hx260_2,hl260_2,hi260_2⟩:=at_T33 HR0.out x4_1 p260 q260
        cases e260
        replace hx260_0:=(HB.out.cell (World.block_lt_of_cell? w _ hx260_0)).trans hx260_0
        replace hx260_1:=(HB.out.cell (World.block_lt_of_cell? w _ hx260_1)).trans hx260_1
        replace hx260_2:=(HB.out.cell (World.block_lt_of_cell? w _ hx260_2)).trans hx260_2
        have HR260_2:=Aside0.mk hi260_2
        have HC260_2:=Aside0.mk hl260_2
        clear hi260_2 hl260_2
        replace p260:=eq_true p260
        replace q260:=eq_true q260
        go_wp2_with (first | ((with_reducible refine gate_callee (f:=21) rfl ?_);refine goesL_ (some 20) rfl rfl Tryd.func21 (by kernel_rfl) rfl #[.agg #[.int .i64 ((rd_T33 l0 x4_1).f0),.int .i64 ((rd_T33 l0 x4_1).f1),.slice A260_2 ((rd_T33 l0 x4_1).f2).length c260_2]] rfl (by (try simp only [List.map_toArray,List.map_cons,List.map_nil]);first | done | rfl | (simp only [List.length_drop,List.length_take];rfl)) ?_;(with_reducible refine (laws_toSeal.calls_of k1 (fun j_ hj_=>ih j_ (by first | omega | (have:=HK1.out;omega) | (have:=HK1.out;have:=HK2.out;omega))) ((rd_T33 l0 x4_1).f0) ((rd_T33 l0 x4_1).f1) _ _ ((rd_T33 l0 x4_1).f2) t261 t262 t263 _ ?side1 ?side2 A8.out).mono ?_);(case side1=>repeat (first | exact (Kd.C_below HR260_2.out HB.out) | (with_reducible refine Kd.C_alloc ?_ _) | (with_reducible refine Kd.C_drewN ?_ _) | (with_reducible refine Kd.C_drew ?_)));(case side2=>exact HC260_2.out);rintro e w11 ⟨v264,rfl,ho0,hb⟩;refine ⟨_,rfl,?_⟩;have n0_:=Aside0.mk (Kd.R_elder' (by (with_reducible repeat (first | apply Kd.R_alloc | apply Kd.R_drewN | apply Kd.R_drew));exact HO_3.out) (Kd.R_base ho0) hb);have n1_:=Aside0.mk (Kd.R_lower (Kd.R_new' ho0 (Kd.R_lt (by (with_reducible repeat (first | apply Kd.R_alloc | apply Kd.R_drewN | apply Kd.R_drew));exact HO_3.out))) (below_size (by repeat (first | (with_reducible first | exact HB.out | apply below_alloc | apply pw_below_drewN | apply below_drew1) | exact HB.out))));have n2_:=Aside0.mk (below_step (by repeat (first | (with_reducible first | exact HB.out | apply below_alloc | apply pw_below_drewN | apply below_drew1) | exact HB.out)) hb);clear HO_3;clear HB;have HO_3:=n0_;have HO265:=n1_;have HB:=n2_;clear n0_ n1_ n2_;(try clear hb);(try clear hb2);(try clear hk);(try clear hi);(try clear ho0);have p10:0 ≤ (x4_1:Int):=of_decide_eq_true (by first | (with_reducible assumption) | assumption);have q10:(x4_1:Int) < ((x3_1.length:Int):Int):=of_decide_eq_true (by first | (with_reducible assumption) | assumption);obtain ⟨go10,co10,eo10,gb10,gl10,cl10,HG10⟩:=Kd.R_form HO_3.out (by omega);(first | cases eo10 | (injection eo10 with ea_ en_ ec_;(first | subst ea_ | (injection ea_ with ea_;subst ea_));subst ec_;clear en_));have GB10:=Aside0.mk gb10;have GG10:=Aside0.mk HG10;clear gb10 gl10 HG10;obtain ⟨ce10,hcl10,hM10,hcc10,hfr10⟩:=Kd.R_elem HO_3.out z25 (x4_1:Int) p10 q10;obtain ⟨ve10_2,rfl,ge10_2⟩:=k25_openM hM10;have hx10_0:w11.cell? ⟨go10,(x4_1:Int).toNat * 3,none⟩ = some (.int .i64 ((rd_T25 x3_1 x4_1).f0)):=hcc10 0 _ rfl;have hx10_1:w11.cell? ⟨go10,(x4_1:Int).toNat * 3 + 1,none⟩ = some (.int .i64 ((rd_T25 x3_1 x4_1).f1)):=hcc10 1 _ rfl;have hx10_2:w11.cell? ⟨go10,(x4_1:Int).toNat * 3 + 2,none⟩ = some (ve10_2):=hcc10 2 _ rfl;have hf10_0:w11.frozen? ⟨go10,(x4_1:Int).toNat * 3,none⟩ = false:=hfr10 0;have hf10_1:w11.frozen? ⟨go10,(x4_1:Int).toNat * 3 + 1,none⟩ = false:=hfr10 1;have hf10_2:w11.frozen? ⟨go10,(x4_1:Int).toNat * 3 + 2,none⟩ = false:=hfr10 2;clear hcl10 hcc10 hfr10;(try clear hM10);replace p10:=eq_true p10;replace q10:=eq_true q10;have n_:=Aside0.mk (Kd.R_mono (ok':=(fun k_=>some k_ ≠ (v264:Value).ownBlock)) HO_3.out (fun k_ hk=>hk.2));clear HO_3;have HO_3:=n_;clear n_;have HX12:=Aside0.mk (show Kd.R k25 25 w11 w.heap.size (fun _=>True) (.slice (some ⟨go10,0,none⟩) x3_1.length co10) x3_1 from (by (with_reducible repeat (first | apply Kd.R_alloc | apply Kd.R_drewN | apply Kd.R_drew));exact Kd.R_mono HO_3.out (fun _ hk=>trivial)));obtain ⟨ce12,hcl12,hM12,hcc12,hfr12⟩:=Kd.R_elem HX12.out z25 (x4_1:Int) (of_decide_eq_true (by first | (with_reducible assumption) | assumption)) (by have h_:(x4_1:Int) < ((x3_1.length:Int):Int):=of_decide_eq_true (by first | (with_reducible assumption) | assumption);first | exact h_ | (have e_:=(Kd.R_reads' HO_3.out).1;omega) | simpa using h_);obtain ⟨ve12_2,rfl,ge12_2⟩:=k25_openM hM12;have HP12:=Kd.R_seg HX12.out (x4_1:Int) (of_decide_eq_true (by first | (with_reducible assumption) | assumption)) (by have h_:(x4_1:Int) < ((x3_1.length:Int):Int):=of_decide_eq_true (by first | (with_reducible assumption) | assumption);first | exact h_ | (have e_:=(Kd.R_reads' HO_3.out).1;omega) | simpa using h_) (seg:=[.int .i64 t261,.int .i64 t262,v264]) (j:=0) hcl12 hcc12 (show 3 ≤ 3 from by decide) (x':=(⟨t261,t262,t263⟩:S25)) (k25_mkM _ _ _ (⟨t261,t262,t263⟩:S25) (Kd.R_mono (HO265.out) (fun k_ hk=>⟨trivial,fun e_=>(hk.2) (by rw [e_];rfl)⟩))) (fun _ hk=>hk);have hx12_0:=hcc12 0 _ rfl;(try simp only [show (k25).sz = 3 from rfl,Nat.mul_one,Nat.add_zero] at hx12_0);have hf12_0:=hfr12 0;(try simp only [show (k25).sz = 3 from rfl,Nat.mul_one,Nat.add_zero] at hf12_0);have hx12_1:=hcc12 1 _ rfl;(try simp only [show (k25).sz = 3 from rfl,Nat.mul_one,Nat.add_zero] at hx12_1);have hf12_1:=hfr12 1;(try simp only [show (k25).sz = 3 from rfl,Nat.mul_one,Nat.add_zero] at hf12_1);have hx12_2:=hcc12 2 _ rfl;(try simp only [show (k25).sz = 3 from rfl,Nat.mul_one,Nat.add_zero] at hx12_2);have hf12_2:=hfr12 2;(try simp only [show (k25).sz = 3 from rfl,Nat.mul_one,Nat.add_zero] at hf12_2);clear hcl12 hcc12 hfr12;(try clear hM12)) | ((with_reducible refine gate_store (t:=25) (p:=21) rfl ?_);refine store_event (t:=25) (p:=21) (v:=?vo_w13) (w1:=(((w11.setCell ⟨go10,(x4_1:Int).toNat * 3,none⟩ (.int .i64 t261)).setCell ⟨go10,(x4_1:Int).toNat * 3 + 1,none⟩ (.int .i64 t262)).setCell ⟨go10,(x4_1:Int).toNat * 3 + 2,none⟩ (v264))) ?hg ?ho ?hn ?hr ?_;(case ho=>rfl);(case hg=>rfl);(case hn=>rfl);(case hr=>first | (go_simp;done) | (go_simp;rfl) | (obtain ⟨Ax_,cx_,ex_⟩:=Kd.R_slice (v:=v264) (Aside0.out (by assumption));subst ex_;first | (go_simp;done) | (go_simp;rfl)) | (obtain ⟨Ax_,cx_,ex_⟩:=Kd.S_slice (v:=v264) (Aside0.out (by assumption));subst ex_;first | (go_simp;done) | (go_simp;rfl)));intro w13 hw;have hg:w11.grownBy w13 (some go10):=(by rw [hw];exact HP12.2);have hp_:Kd.R k25 25 w13 w.heap.size (fun _=>True) (.slice (some ⟨go10,0,none⟩) x3_1.length co10) y266:=(by rw [hw,Ny266.out];exact HP12.1);clear HP12;have n0_:=Aside0.mk (hp_);have n1_:=Aside0.mk ((by rw [hw];exact below_set (below_set (below_set (HB.out) GB10.out) GB10.out) GB10.out:Below w.heap.size w w13));clear HO_3;clear HB;clear HO265;have HO_3:=n0_;have HB:=n1_;clear n0_ n1_;clear hg hw hp_))
        go_roundg k1
        case measure=>have:=HK1.out;omega
        case rel=>exact ⟨(y266),(wrap64 (x4_1 + 1)),(by first | rfl | (simp;done) | (simp [*];done)),H',⟨by have:=HK1.out;omega⟩,⟨by (with_reducible repeat (first | apply Kd.R_alloc | apply Kd.R_drewN | apply Kd.R_drew));exact HO_3.out⟩,⟨by repeat (first | (with_reducible first | exact HB.out | apply below_alloc | apply pw_below_drewN | apply below_drew1) | exact HB.out)⟩⟩
       ·rw [if_neg c9] at H
        exact absurd H (by simp)
      ·rw [if_neg c7] at H
       exact absurd H (by simp)
     ·rw [if_neg c6] at H
      have c6b0:decide (x4_1 < (l0.length:Int)) = false:=decide_eq_false c6
      clear c6
      obtain rfl:=Option.some.inj H
      go_wp2
      go_ret
      exact ⟨_,by first | rfl | (simp [errW_none,errW_some] <;> rfl) | (simp [*,errW_none,errW_some] <;> rfl),by (with_reducible repeat (first | apply Kd.R_alloc | apply Kd.R_drewN | apply Kd.R_drew));exact HO_3.out,by repeat (first | (with_reducible first | exact HB.out | apply below_alloc | apply pw_below_drewN | apply below_drew1) | exact HB.out)⟩
  ·rw [if_neg c3] at H
   exact absurd H (by simp)
 ·rw [if_neg c2] at H
  exact absurd H (by simp)
theorem laws_toSeal.calls (k:Nat) (a0_0:Int) (a0_1:Int) (A0_2:Option Addr) (c0_2:Nat) (l0_2:List (S33)) (r1:Int) (r2:Int) (r3:List (S25)) (w:World) (hr0_2:Kd.C k33 w A0_2 l0_2.length l0_2) (hc0_2:l0_2.length ≤ c0_2) (h:laws_toSeal.f k a0_0 a0_1 l0_2 = some (r1,r2,r3)) :
  Calls Tryd.prog 21 #[.agg #[.int .i64 a0_0,.int .i64 a0_1,.slice A0_2 l0_2.length c0_2]] w fun e w'=>∃ v2_:Value,e = .returned (.agg #[.int .i64 r1,.int .i64 r2,v2_])∧Kd.R k25 25 w' w.heap.size (fun _=>True) v2_ r3∧Below w.heap.size w w':=laws_toSeal.calls_of k (fun j_ _=>laws_toSealS.calls j_) a0_0 a0_1 A0_2 c0_2 l0_2 r1 r2 r3 w hr0_2 hc0_2 h
def laws_eqSeal.body (g:List (S25) → List (S25) → Option (Bool)) (a0_0:Int) (a0_1:Int) (l0_2:List (S25)) (a1_0:Int) (a1_1:Int) (l1_2:List (S25)):Option (Bool):=if a0_0 = a1_0 then (if a0_1 = a1_1 then ((g l0_2 l1_2).bind fun t284=>(if t284 = true then (some true) else (some false))) else (some false)) else (some false)
theorem laws_eqSeal.body_mono {g g':List (S25) → List (S25) → Option (Bool)} (hg:∀ y0 y1,LeO (g y0 y1) (g' y0 y1)):∀ a0_0 a0_1 l0_2 a1_0 a1_1 l1_2,LeO (laws_eqSeal.body g a0_0 a0_1 l0_2 a1_0 a1_1 l1_2) (laws_eqSeal.body g' a0_0 a0_1 l0_2 a1_0 a1_1 l1_2):=by
 intro a0_0 a0_1 l0_2 a1_0 a1_1 l1_2
 unfold laws_eqSeal.body
 repeat' first
   | (with_reducible exact hg _ _)
   | (with_reducible exact LeO.refl _)
   | (with_reducible exact LeO.none _)
   | (with_reducible refine LeO.ite ?_ ?_)
   | (with_reducible refine LeO.bind ?_ (fun _=>?_))
   | exact hg _ _
   | exact LeO.none _
   | refine LeO.ite ?_ ?_
   | refine LeO.bind ?_ (fun _=>?_)
mutual
def laws_eqSealS.l0:Nat → List (S25) → List (S25) → Int → Option (Bool)
 | 0,_,_,_=>none
 | k + 1,x0,x1,x5=>if x5 < (x0.length:Int) then (if 0 ≤ x5 then (if x5 < (x1.length:Int) then ((laws_eqSeal.body (fun y0 y1=>laws_eqSealS.f k y0 y1) ((rd_T25 x0 x5).f0) ((rd_T25 x0 x5).f1) ((rd_T25 x0 x5).f2) ((rd_T25 x1 x5).f0) ((rd_T25 x1 x5).f1) ((rd_T25 x1 x5).f2)).bind fun t281=>(if t281 = true then (laws_eqSealS.l0 k x0 x1 (wrap64 (x5 + 1))) else (some false))) else (none)) else (none)) else (some true)
def laws_eqSealS.f:Nat → List (S25) → List (S25) → Option (Bool)
 | 0,_,_=>none
 | k + 1,l0,l1=>if (l0.length:Int) = (l1.length:Int) then (laws_eqSealS.l0 k l0 l1 0) else (some false)
end
abbrev laws_eqSeal.f (k:Nat) (a0_0:Int) (a0_1:Int) (l0_2:List (S25)) (a1_0:Int) (a1_1:Int) (l1_2:List (S25)):Option (Bool):=laws_eqSeal.body (fun y0 y1=>laws_eqSealS.f k y0 y1) a0_0 a0_1 l0_2 a1_0 a1_1 l1_2
theorem laws_eqSealS.mono_l:∀ k,(∀ y0 y1,LeO (laws_eqSealS.f k y0 y1) (laws_eqSealS.f (k + 1) y0 y1))∧(∀ y0 y1 y2,LeO (laws_eqSealS.l0 k y0 y1 y2) (laws_eqSealS.l0 (k + 1) y0 y1 y2))
 | 0=>⟨fun _ _ r h=>by simp [laws_eqSealS.f] at h,fun _ _ _ r h=>by simp [laws_eqSealS.l0] at h⟩
 | k + 1=>by
  obtain ⟨ih0,ih1⟩:=laws_eqSealS.mono_l k
  refine ⟨?_,?_⟩
  ·intro y0 y1
   unfold laws_eqSealS.f
   repeat' first
   | (with_reducible exact ih0 _ _)
   | (with_reducible exact ih1 _ _ _)
   | (with_reducible exact laws_eqSeal.body_mono (fun y0 y1=>ih0 y0 y1) _ _ _ _ _ _)
   | (with_reducible exact LeO.refl _)
   | (with_reducible exact LeO.none _)
   | (with_reducible refine LeO.ite ?_ ?_)
   | (with_reducible refine LeO.bind ?_ (fun _=>?_))
   | exact ih0 _ _
   | exact ih1 _ _ _
   | exact LeO.none _
   | refine LeO.ite ?_ ?_
   | refine LeO.bind ?_ (fun _=>?_)
  ·intro y0 y1 y2
   unfold laws_eqSealS.l0
   repeat' first
   | (with_reducible exact ih0 _ _)
   | (with_reducible exact ih1 _ _ _)
   | (with_reducible exact laws_eqSeal.body_mono (fun y0 y1=>ih0 y0 y1) _ _ _ _ _ _)
   | (with_reducible exact LeO.refl _)
   | (with_reducible exact LeO.none _)
   | (with_reducible refine LeO.ite ?_ ?_)
   | (with_reducible refine LeO.bind ?_ (fun _=>?_))
   | exact ih0 _ _
   | exact ih1 _ _ _
   | exact LeO.none _
   | refine LeO.ite ?_ ?_
   | refine LeO.bind ?_ (fun _=>?_)
theorem laws_eqSealS.mono:∀ a0 a1 k,LeO (laws_eqSealS.f k a0 a1) (laws_eqSealS.f (k + 1) a0 a1):=by
 intro a0 a1 k
 obtain ⟨ih0,ih1⟩:=laws_eqSealS.mono_l k
 exact ih0 a0 a1
def laws_eqSealS.T6:Bool × List (List Nat × List Nat):=(true,[([],[]),([],[]),([0,1],[0,1]),([2],[2]),([],[]),([],[]),([4,5],[4,5]),([6],[6]),([3,7],[3,7]),([8],[8])])
def laws_eqSealS.B6:List Nat:=[0,0,3,7,0,0,48,112,255,511]
theorem laws_eqSealS.tab6:rtab .any (opsOf Tryd.f29 6) = laws_eqSealS.T6:=by kernel_rfl
theorem laws_eqSealS.bits6:waitsOk laws_eqSealS.T6.2 laws_eqSealS.B6 = true:=by kernel_rfl
theorem laws_eqSeal.mono:∀ a0_0 a0_1 l0_2 a1_0 a1_1 l1_2 k,LeO (laws_eqSeal.f k a0_0 a0_1 l0_2 a1_0 a1_1 l1_2) (laws_eqSeal.f (k + 1) a0_0 a0_1 l0_2 a1_0 a1_1 l1_2):=fun a0_0 a0_1 l0_2 a1_0 a1_1 l1_2 k=>laws_eqSeal.body_mono (fun y0 y1=>laws_eqSealS.mono y0 y1 k) a0_0 a0_1 l0_2 a1_0 a1_1 l1_2
abbrev laws_eqSealS.Con (k:Nat):Prop:=∀ (A0:Option Addr) (c0:Nat) (l0:List (S25)) (A1:Option Addr) (c1:Nat) (l1:List (S25)) (r:Bool) (w:World) (hr0:Kd.C k25 w A0 l0.length l0) (hc0:l0.length ≤ c0) (hr1:Kd.C k25 w A1 l1.length l1) (hc1:l1.length ≤ c1) (h:laws_eqSealS.f k l0 l1 = some r),
  Calls Tryd.prog 29 #[.slice A0 l0.length c0,.slice A1 l1.length c1] w fun e w'=>e = .returned (.bool r)∧Below w.heap.size w w'
set_option maxHeartbeats 8000000 in
set_option maxRecDepth 100000 in
theorem laws_eqSeal.calls_of (k:Nat) (ihS:∀ j_,j_ ≤ k → laws_eqSealS.Con j_) (a0_0:Int) (a0_1:Int) (A0_2:Option Addr) (c0_2:Nat) (l0_2:List (S25)) (a1_0:Int) (a1_1:Int) (A1_2:Option Addr) (c1_2:Nat) (l1_2:List (S25)) (r:Bool) (w:World) (hr0_2:Kd.C k25 w A0_2 l0_2.length l0_2) (hc0_2:l0_2.length ≤ c0_2) (hr1_2:Kd.C k25 w A1_2 l1_2.length l1_2) (hc1_2:l1_2.length ≤ c1_2) (h:laws_eqSeal.f k a0_0 a0_1 l0_2 a1_0 a1_1 l1_2 = some r) :
  Calls Tryd.prog 22 #[.agg #[.int .i64 a0_0,.int .i64 a0_1,.slice A0_2 l0_2.length c0_2],.agg #[.int .i64 a1_0,.int .i64 a1_1,.slice A1_2 l1_2.length c1_2]] w fun e w'=>e = .returned (.bool r)∧Below w.heap.size w w':=by
 have hu25:=Tryd.underlying25
 have HR0_2:=Aside0.mk hr0_2
 have HC0_2:=Aside0.mk hc0_2
 clear hr0_2 hc0_2
 have HR1_2:=Aside0.mk hr1_2
 have HC1_2:=Aside0.mk hc1_2
 clear hr1_2 hc1_2
 have HB:=Aside0.mk (Below.refl w.heap.size w)
 have H:(if a0_0 = a1_0 then (if a0_1 = a1_1 then ((laws_eqSealS.f k l0_2 l1_2).bind fun t284=>(if t284 = true then (some true) else (some false))) else (some false)) else (some false)) = some r:=h
 clear h
 by_cases c3:a0_0 = a1_0
 ·rw [if_pos c3] at H
  have c3b0:(a0_0 == a1_0) = true:=beq_iff_eq.mpr c3
  have c3b1:(a0_0 != a1_0) = false:=bne_eq_false_iff_eq.mpr c3
  clear c3
  by_cases c4:a0_1 = a1_1
  ·rw [if_pos c4] at H
   have c4b0:(a0_1 == a1_1) = true:=beq_iff_eq.mpr c4
   have c4b1:(a0_1 != a1_1) = false:=bne_eq_false_iff_eq.mpr c4
   clear c4
   replace H:=Option.bind_eq_some_iff.mp H
   obtain ⟨t284,A50,H⟩:=H
   replace H:(if t284 = true then (some true) else (some false)) = some r:=H
   have A5:=Aside0.mk A50
   clear A50
   by_cases c6:t284 = true
   ·subst c6
    have H1:(some true) = some r:=by rw [if_pos rfl] at H;exact H
    clear H
    have H:=H1
    clear H1
    obtain rfl:=Option.some.inj H
    go_enter Tryd.func22,Tryd.ntmps22
    go_wp2_with (first | ((with_reducible refine gate_dst (N:=2) rfl ?_);refine box_event ?hg (N:=2) ?hd (cs:=#[.int .i64 a0_0,.int .i64 a0_1,.slice A0_2 l0_2.length c0_2]) (t:=25) ?hr ?_;(case hd=>rfl);(case hg=>rfl);(case hr=>first | (go_simp;done) | (go_simp;rfl));intro gb282 hg w7 hbox hb;have n0_:=Aside0.mk (below_step (by repeat (first | (with_reducible first | exact HB.out | apply below_alloc | apply pw_below_drewN | apply below_drew1) | exact HB.out)) hb);have n1_:=Aside0.mk (hbox);have n2_:=Aside0.mk ((by rw [hg];exact (below_size (by repeat (first | (with_reducible first | exact HB.out | apply below_alloc | apply pw_below_drewN | apply below_drew1) | exact HB.out))):w.heap.size ≤ gb282));have n3_:=Aside0.mk ((by rw [hg];exact (below_size (by repeat (first | (with_reducible first | exact HB.out | apply below_alloc | apply pw_below_drewN | apply below_drew1) | exact HB.out))):w.heap.size ≤ gb282));clear HB;have HB:=n0_;have BK282:=n1_;have GW282:=n2_;have GE282:=n3_;clear n0_ n1_ n2_ n3_;clear hb hbox hg) | ((with_reducible refine gate_dst (N:=3) rfl ?_);refine box_event ?hg (N:=3) ?hd (cs:=#[.int .i64 a1_0,.int .i64 a1_1,.slice A1_2 l1_2.length c1_2]) (t:=25) ?hr ?_;(case hd=>rfl);(case hg=>rfl);(case hr=>first | (go_simp;done) | (go_simp;rfl));intro gb283 hg w8 hbox hb;have n0_:=Aside0.mk (blk_below (g:=gb282) (o:=.cells #[.int .i64 a0_0,.int .i64 a0_1,.slice A0_2 l0_2.length c0_2] 25 (0,0)) (by (with_reducible repeat (first | refine blk_drewN ?_ _ | refine blk_drew ?_ | refine blk_alloc ?_ _));exact BK282.out) hb);have n1_:=Aside0.mk (below_step (by repeat (first | (with_reducible first | exact HB.out | apply below_alloc | apply pw_below_drewN | apply below_drew1 | refine below_set ?_ GE282.out) | exact HB.out)) hb);have n2_:=Aside0.mk (hbox);have n3_:=Aside0.mk ((by rw [hg];exact (below_size (by repeat (first | (with_reducible first | exact HB.out | apply below_alloc | apply pw_below_drewN | apply below_drew1 | refine below_set ?_ GE282.out) | exact HB.out))):w.heap.size ≤ gb283));have n4_:=Aside0.mk ((by rw [hg];exact (below_size (by repeat (first | (with_reducible first | exact HB.out | apply below_alloc | apply pw_below_drewN | apply below_drew1 | refine below_set ?_ GE282.out) | exact HB.out))):w.heap.size ≤ gb283));have n5_:=Aside0.mk ((by rw [hg];exact Nat.ne_of_lt (blk_lt (g:=gb282) (o:=.cells #[.int .i64 a0_0,.int .i64 a0_1,.slice A0_2 l0_2.length c0_2] 25 (0,0)) (by (with_reducible repeat (first | refine blk_drewN ?_ _ | refine blk_drew ?_ | refine blk_alloc ?_ _));exact BK282.out)):gb282 ≠ gb283));have n6_:=Aside0.mk ((by rw [hg];exact Nat.ne_of_gt (blk_lt (g:=gb282) (o:=.cells #[.int .i64 a0_0,.int .i64 a0_1,.slice A0_2 l0_2.length c0_2] 25 (0,0)) (by (with_reducible repeat (first | refine blk_drewN ?_ _ | refine blk_drew ?_ | refine blk_alloc ?_ _));exact BK282.out)):gb283 ≠ gb282));clear BK282;clear HB;have BK282:=n0_;have HB:=n1_;have BK283:=n2_;have GW283:=n3_;have GE283:=n4_;have NB282_283:=n5_;have NB283_282:=n6_;clear n0_ n1_ n2_ n3_ n4_ n5_ n6_;clear hb hbox hg;have hnb9:=NB282_283.out;have hnc9:=NB283_282.out;have hcz10_0:w8.cell? ⟨gb282,0,none⟩ = some (.int .i64 a0_0):=(blk_cell BK282.out 0).trans rfl;have hcz10_1:w8.cell? ⟨gb282,1,none⟩ = some (.int .i64 a0_1):=(blk_cell BK282.out 1).trans rfl;have hcz10_2:w8.cell? ⟨gb282,2,none⟩ = some (.slice A0_2 l0_2.length c0_2):=(blk_cell BK282.out 2).trans rfl;have hfz10_0:=blk_frozen BK282.out 0;have hfz10_1:=blk_frozen BK282.out 1;have hfz10_2:=blk_frozen BK282.out 2;have hcz11_0:w8.cell? ⟨gb283,0,none⟩ = some (.int .i64 a1_0):=(blk_cell BK283.out 0).trans rfl;have hcz11_1:w8.cell? ⟨gb283,1,none⟩ = some (.int .i64 a1_1):=(blk_cell BK283.out 1).trans rfl;have hcz11_2:w8.cell? ⟨gb283,2,none⟩ = some (.slice A1_2 l1_2.length c1_2):=(blk_cell BK283.out 2).trans rfl;have hfz11_0:=blk_frozen BK283.out 0;have hfz11_1:=blk_frozen BK283.out 1;have hfz11_2:=blk_frozen BK283.out 2) | ((with_reducible refine gate_callee (f:=29) rfl ?_);refine goesL_ (some 19) rfl rfl Tryd.func29 (by kernel_rfl) rfl #[.slice A0_2 l0_2.length c0_2,.slice A1_2 l1_2.length c1_2] rfl (by (try simp only [List.map_toArray,List.map_cons,List.map_nil]);first | done | rfl | (simp only [List.length_drop,List.length_take];rfl)) ?_;(with_reducible refine (ihS k (Nat.le_refl _) _ _ l0_2 _ _ l1_2 true _ ?side1 ?side2 ?side3 ?side4 A5.out).mono ?_);(case side1=>repeat (first | exact (Kd.C_below HR0_2.out HB.out) | (with_reducible refine Kd.C_alloc ?_ _) | (with_reducible refine Kd.C_drewN ?_ _) | (with_reducible refine Kd.C_drew ?_)));(case side2=>exact HC0_2.out);(case side3=>repeat (first | exact (Kd.C_below HR1_2.out HB.out) | (with_reducible refine Kd.C_alloc ?_ _) | (with_reducible refine Kd.C_drewN ?_ _) | (with_reducible refine Kd.C_drew ?_)));(case side4=>exact HC1_2.out);rintro e w12 ⟨rfl,hb⟩;refine ⟨_,rfl,?_⟩;have n0_:=Aside0.mk (blk_below (g:=gb282) (o:=.cells #[.int .i64 a0_0,.int .i64 a0_1,.slice A0_2 l0_2.length c0_2] 25 (0,0)) (by (with_reducible repeat (first | refine blk_drewN ?_ _ | refine blk_drew ?_ | refine blk_alloc ?_ _));exact BK282.out) hb);have n1_:=Aside0.mk (blk_below (g:=gb283) (o:=.cells #[.int .i64 a1_0,.int .i64 a1_1,.slice A1_2 l1_2.length c1_2] 25 (0,0)) (by (with_reducible repeat (first | refine blk_drewN ?_ _ | refine blk_drew ?_ | refine blk_alloc ?_ _));exact BK283.out) hb);have n2_:=Aside0.mk (below_step (by repeat (first | (with_reducible first | exact HB.out | apply below_alloc | apply pw_below_drewN | apply below_drew1 | refine below_set ?_ GE282.out | refine below_set ?_ GE283.out) | exact HB.out)) hb);clear BK282;clear BK283;clear HB;have BK282:=n0_;have BK283:=n1_;have HB:=n2_;clear n0_ n1_ n2_;(try clear hb);(try clear hb2);(try clear hk);(try clear hi)))
    go_ret
    exact ⟨by first | rfl | (simp [errW_none,errW_some] <;> rfl) | (simp [*,errW_none,errW_some] <;> rfl),by repeat (first | (with_reducible first | exact HB.out | apply below_alloc | apply pw_below_drewN | apply below_drew1 | refine below_set ?_ GE282.out | refine below_set ?_ GE283.out) | exact HB.out)⟩
   ·replace c6:=Bool.eq_false_iff.mpr c6
    subst c6
    have H1:(some false) = some r:=by rw [if_neg (show ¬ (false = true) by decide)] at H;exact H
    clear H
    have H:=H1
    clear H1
    obtain rfl:=Option.some.inj H
    go_enter Tryd.func22,Tryd.ntmps22
    go_wp2_with (first | ((with_reducible refine gate_dst (N:=2) rfl ?_);refine box_event ?hg (N:=2) ?hd (cs:=#[.int .i64 a0_0,.int .i64 a0_1,.slice A0_2 l0_2.length c0_2]) (t:=25) ?hr ?_;(case hd=>rfl);(case hg=>rfl);(case hr=>first | (go_simp;done) | (go_simp;rfl));intro gb282 hg w13 hbox hb;have n0_:=Aside0.mk (below_step (by repeat (first | (with_reducible first | exact HB.out | apply below_alloc | apply pw_below_drewN | apply below_drew1) | exact HB.out)) hb);have n1_:=Aside0.mk (hbox);have n2_:=Aside0.mk ((by rw [hg];exact (below_size (by repeat (first | (with_reducible first | exact HB.out | apply below_alloc | apply pw_below_drewN | apply below_drew1) | exact HB.out))):w.heap.size ≤ gb282));have n3_:=Aside0.mk ((by rw [hg];exact (below_size (by repeat (first | (with_reducible first | exact HB.out | apply below_alloc | apply pw_below_drewN | apply below_drew1) | exact HB.out))):w.heap.size ≤ gb282));clear HB;have HB:=n0_;have BK282:=n1_;have GW282:=n2_;have GE282:=n3_;clear n0_ n1_ n2_ n3_;clear hb hbox hg) | ((with_reducible refine gate_dst (N:=3) rfl ?_);refine box_event ?hg (N:=3) ?hd (cs:=#[.int .i64 a1_0,.int .i64 a1_1,.slice A1_2 l1_2.length c1_2]) (t:=25) ?hr ?_;(case hd=>rfl);(case hg=>rfl);(case hr=>first | (go_simp;done) | (go_simp;rfl));intro gb283 hg w14 hbox hb;have n0_:=Aside0.mk (blk_below (g:=gb282) (o:=.cells #[.int .i64 a0_0,.int .i64 a0_1,.slice A0_2 l0_2.length c0_2] 25 (0,0)) (by (with_reducible repeat (first | refine blk_drewN ?_ _ | refine blk_drew ?_ | refine blk_alloc ?_ _));exact BK282.out) hb);have n1_:=Aside0.mk (below_step (by repeat (first | (with_reducible first | exact HB.out | apply below_alloc | apply pw_below_drewN | apply below_drew1 | refine below_set ?_ GE282.out) | exact HB.out)) hb);have n2_:=Aside0.mk (hbox);have n3_:=Aside0.mk ((by rw [hg];exact (below_size (by repeat (first | (with_reducible first | exact HB.out | apply below_alloc | apply pw_below_drewN | apply below_drew1 | refine below_set ?_ GE282.out) | exact HB.out))):w.heap.size ≤ gb283));have n4_:=Aside0.mk ((by rw [hg];exact (below_size (by repeat (first | (with_reducible first | exact HB.out | apply below_alloc | apply pw_below_drewN | apply below_drew1 | refine below_set ?_ GE282.out) | exact HB.out))):w.heap.size ≤ gb283));have n5_:=Aside0.mk ((by rw [hg];exact Nat.ne_of_lt (blk_lt (g:=gb282) (o:=.cells #[.int .i64 a0_0,.int .i64 a0_1,.slice A0_2 l0_2.length c0_2] 25 (0,0)) (by (with_reducible repeat (first | refine blk_drewN ?_ _ | refine blk_drew ?_ | refine blk_alloc ?_ _));exact BK282.out)):gb282 ≠ gb283));have n6_:=Aside0.mk ((by rw [hg];exact Nat.ne_of_gt (blk_lt (g:=gb282) (o:=.cells #[.int .i64 a0_0,.int .i64 a0_1,.slice A0_2 l0_2.length c0_2] 25 (0,0)) (by (with_reducible repeat (first | refine blk_drewN ?_ _ | refine blk_drew ?_ | refine blk_alloc ?_ _));exact BK282.out)):gb283 ≠ gb282));clear BK282;clear HB;have BK282:=n0_;have HB:=n1_;have BK283:=n2_;have GW283:=n3_;have GE283:=n4_;have NB282_283:=n5_;have NB283_282:=n6_;clear n0_ n1_ n2_ n3_ n4_ n5_ n6_;clear hb hbox hg;have hnb15:=NB282_283.out;have hnc15:=NB283_282.out;have hcz16_0:w14.cell? ⟨gb282,0,none⟩ = some (.int .i64 a0_0):=(blk_cell BK282.out 0).trans rfl;have hcz16_1:w14.cell? ⟨gb282,1,none⟩ = some (.int .i64 a0_1):=(blk_cell BK282.out 1).trans rfl;have hcz16_2:w14.cell? ⟨gb282,2,none⟩ = some (.slice A0_2 l0_2.length c0_2):=(blk_cell BK282.out 2).trans rfl;have hfz16_0:=blk_frozen BK282.out 0;have hfz16_1:=blk_frozen BK282.out 1;have hfz16_2:=blk_frozen BK282.out 2;have hcz17_0:w14.cell? ⟨gb283,0,none⟩ = some (.int .i64 a1_0):=(blk_cell BK283.out 0).trans rfl;have hcz17_1:w14.cell? ⟨gb283,1,none⟩ = some (.int .i64 a1_1):=(blk_cell BK283.out 1).trans rfl;have hcz17_2:w14.cell? ⟨gb283,2,none⟩ = some (.slice A1_2 l1_2.length c1_2):=(blk_cell BK283.out 2).trans rfl;have hfz17_0:=blk_frozen BK283.out 0;have hfz17_1:=blk_frozen BK283.out 1;have hfz17_2:=blk_frozen BK283.out 2) | ((with_reducible refine gate_callee (f:=29) rfl ?_);refine goesL_ (some 19) rfl rfl Tryd.func29 (by kernel_rfl) rfl #[.slice A0_2 l0_2.length c0_2,.slice A1_2 l1_2.length c1_2] rfl (by (try simp only [List.map_toArray,List.map_cons,List.map_nil]);first | done | rfl | (simp only [List.length_drop,List.length_take];rfl)) ?_;(with_reducible refine (ihS k (Nat.le_refl _) _ _ l0_2 _ _ l1_2 false _ ?side1 ?side2 ?side3 ?side4 A5.out).mono ?_);(case side1=>repeat (first | exact (Kd.C_below HR0_2.out HB.out) | (with_reducible refine Kd.C_alloc ?_ _) | (with_reducible refine Kd.C_drewN ?_ _) | (with_reducible refine Kd.C_drew ?_)));(case side2=>exact HC0_2.out);(case side3=>repeat (first | exact (Kd.C_below HR1_2.out HB.out) | (with_reducible refine Kd.C_alloc ?_ _) | (with_reducible refine Kd.C_drewN ?_ _) | (with_reducible refine Kd.C_drew ?_)));(case side4=>exact HC1_2.out);rintro e w18 ⟨rfl,hb⟩;refine ⟨_,rfl,?_⟩;have n0_:=Aside0.mk (blk_below (g:=gb282) (o:=.cells #[.int .i64 a0_0,.int .i64 a0_1,.slice A0_2 l0_2.length c0_2] 25 (0,0)) (by (with_reducible repeat (first | refine blk_drewN ?_ _ | refine blk_drew ?_ | refine blk_alloc ?_ _));exact BK282.out) hb);have n1_:=Aside0.mk (blk_below (g:=gb283) (o:=.cells #[.int .i64 a1_0,.int .i64 a1_1,.slice A1_2 l1_2.length c1_2] 25 (0,0)) (by (with_reducible repeat (first | refine blk_drewN ?_ _ | refine blk_drew ?_ | refine blk_alloc ?_ _));exact BK283.out) hb);have n2_:=Aside0.mk (below_step (by repeat (first | (with_reducible first | exact HB.out | apply below_alloc | apply pw_below_drewN | apply below_drew1 | refine below_set ?_ GE282.out | refine below_set ?_ GE283.out) | exact HB.out)) hb);clear BK282;clear BK283;clear HB;have BK282:=n0_;have BK283:=n1_;have HB:=n2_;clear n0_ n1_ n2_;(try clear hb);(try clear hb2);(try clear hk);(try clear hi)))
    go_ret
    exact ⟨by first | rfl | (simp [errW_none,errW_some] <;> rfl) | (simp [*,errW_none,errW_some] <;> rfl),by repeat (first | (with_reducible first | exact HB.out | apply below_alloc | apply pw_below_drewN | apply below_drew1 | refine below_set ?_ GE282.out | refine below_set ?_ GE283.out) | exact HB.out)⟩
  ·rw [if_neg c4] at H
   have c4b0:(a0_1 == a1_1) = false:=beq_eq_false_iff_ne.mpr c4
   have c4b1:(a0_1 != a1_1) = true:=bne_iff_ne.mpr c4
   obtain rfl:=Option.some.inj H
   go_enter Tryd.func22,Tryd.ntmps22
   go_wp2_with (first | ((with_reducible refine gate_dst (N:=2) rfl ?_);refine box_event ?hg (N:=2) ?hd (cs:=#[.int .i64 a0_0,.int .i64 a0_1,.slice A0_2 l0_2.length c0_2]) (t:=25) ?hr ?_;(case hd=>rfl);(case hg=>rfl);(case hr=>first | (go_simp;done) | (go_simp;rfl));intro gb282 hg w19 hbox hb;have n0_:=Aside0.mk (below_step (by repeat (first | (with_reducible first | exact HB.out | apply below_alloc | apply pw_below_drewN | apply below_drew1) | exact HB.out)) hb);have n1_:=Aside0.mk (hbox);have n2_:=Aside0.mk ((by rw [hg];exact (below_size (by repeat (first | (with_reducible first | exact HB.out | apply below_alloc | apply pw_below_drewN | apply below_drew1) | exact HB.out))):w.heap.size ≤ gb282));have n3_:=Aside0.mk ((by rw [hg];exact (below_size (by repeat (first | (with_reducible first | exact HB.out | apply below_alloc | apply pw_below_drewN | apply below_drew1) | exact HB.out))):w.heap.size ≤ gb282));clear HB;have HB:=n0_;have BK282:=n1_;have GW282:=n2_;have GE282:=n3_;clear n0_ n1_ n2_ n3_;clear hb hbox hg) | ((with_reducible refine gate_dst (N:=3) rfl ?_);refine box_event ?hg (N:=3) ?hd (cs:=#[.int .i64 a1_0,.int .i64 a1_1,.slice A1_2 l1_2.length c1_2]) (t:=25) ?hr ?_;(case hd=>rfl);(case hg=>rfl);(case hr=>first | (go_simp;done) | (go_simp;rfl));intro gb283 hg w20 hbox hb;have n0_:=Aside0.mk (blk_below (g:=gb282) (o:=.cells #[.int .i64 a0_0,.int .i64 a0_1,.slice A0_2 l0_2.length c0_2] 25 (0,0)) (by (with_reducible repeat (first | refine blk_drewN ?_ _ | refine blk_drew ?_ | refine blk_alloc ?_ _));exact BK282.out) hb);have n1_:=Aside0.mk (below_step (by repeat (first | (with_reducible first | exact HB.out | apply below_alloc | apply pw_below_drewN | apply below_drew1 | refine below_set ?_ GE282.out) | exact HB.out)) hb);have n2_:=Aside0.mk (hbox);have n3_:=Aside0.mk ((by rw [hg];exact (below_size (by repeat (first | (with_reducible first | exact HB.out | apply below_alloc | apply pw_below_drewN | apply below_drew1 | refine below_set ?_ GE282.out) | exact HB.out))):w.heap.size ≤ gb283));have n4_:=Aside0.mk ((by rw [hg];exact (below_size (by repeat (first | (with_reducible first | exact HB.out | apply below_alloc | apply pw_below_drewN | apply below_drew1 | refine below_set ?_ GE282.out) | exact HB.out))):w.heap.size ≤ gb283));have n5_:=Aside0.mk ((by rw [hg];exact Nat.ne_of_lt (blk_lt (g:=gb282) (o:=.cells #[.int .i64 a0_0,.int .i64 a0_1,.slice A0_2 l0_2.length c0_2] 25 (0,0)) (by (with_reducible repeat (first | refine blk_drewN ?_ _ | refine blk_drew ?_ | refine blk_alloc ?_ _));exact BK282.out)):gb282 ≠ gb283));have n6_:=Aside0.mk ((by rw [hg];exact Nat.ne_of_gt (blk_lt (g:=gb282) (o:=.cells #[.int .i64 a0_0,.int .i64 a0_1,.slice A0_2 l0_2.length c0_2] 25 (0,0)) (by (with_reducible repeat (first | refine blk_drewN ?_ _ | refine blk_drew ?_ | refine blk_alloc ?_ _));exact BK282.out)):gb283 ≠ gb282));clear BK282;clear HB;have BK282:=n0_;have HB:=n1_;have BK283:=n2_;have GW283:=n3_;have GE283:=n4_;have NB282_283:=n5_;have NB283_282:=n6_;clear n0_ n1_ n2_ n3_ n4_ n5_ n6_;clear hb hbox hg;have hnb21:=NB282_283.out;have hnc21:=NB283_282.out;have hcz22_0:w20.cell? ⟨gb282,0,none⟩ = some (.int .i64 a0_0):=(blk_cell BK282.out 0).trans rfl;have hcz22_1:w20.cell? ⟨gb282,1,none⟩ = some (.int .i64 a0_1):=(blk_cell BK282.out 1).trans rfl;have hcz22_2:w20.cell? ⟨gb282,2,none⟩ = some (.slice A0_2 l0_2.length c0_2):=(blk_cell BK282.out 2).trans rfl;have hfz22_0:=blk_frozen BK282.out 0;have hfz22_1:=blk_frozen BK282.out 1;have hfz22_2:=blk_frozen BK282.out 2;have hcz23_0:w20.cell? ⟨gb283,0,none⟩ = some (.int .i64 a1_0):=(blk_cell BK283.out 0).trans rfl;have hcz23_1:w20.cell? ⟨gb283,1,none⟩ = some (.int .i64 a1_1):=(blk_cell BK283.out 1).trans rfl;have hcz23_2:w20.cell? ⟨gb283,2,none⟩ = some (.slice A1_2 l1_2.length c1_2):=(blk_cell BK283.out 2).trans rfl;have hfz23_0:=blk_frozen BK283.out 0;have hfz23_1:=blk_frozen BK283.out 1;have hfz23_2:=blk_frozen BK283.out 2))
   go_ret
   exact ⟨by first | rfl | (simp [errW_none,errW_some] <;> rfl) | (simp [*,errW_none,errW_some] <;> rfl),by repeat (first | (with_reducible first | exact HB.out | apply below_alloc | apply pw_below_drewN | apply below_drew1 | refine below_set ?_ GE282.out | refine below_set ?_ GE283.out) | exact HB.out)⟩
 ·rw [if_neg c3] at H
  have c3b0:(a0_0 == a1_0) = false:=beq_eq_false_iff_ne.mpr c3
  have c3b1:(a0_0 != a1_0) = true:=bne_iff_ne.mpr c3
  obtain rfl:=Option.some.inj H
  go_enter Tryd.func22,Tryd.ntmps22
  go_wp2_with (first | ((with_reducible refine gate_dst (N:=2) rfl ?_);refine box_event ?hg (N:=2) ?hd (cs:=#[.int .i64 a0_0,.int .i64 a0_1,.slice A0_2 l0_2.length c0_2]) (t:=25) ?hr ?_;(case hd=>rfl);(case hg=>rfl);(case hr=>first | (go_simp;done) | (go_simp;rfl));intro gb282 hg w24 hbox hb;have n0_:=Aside0.mk (below_step (by repeat (first | (with_reducible first | exact HB.out | apply below_alloc | apply pw_below_drewN | apply below_drew1) | exact HB.out)) hb);have n1_:=Aside0.mk (hbox);have n2_:=Aside0.mk ((by rw [hg];exact (below_size (by repeat (first | (with_reducible first | exact HB.out | apply below_alloc | apply pw_below_drewN | apply below_drew1) | exact HB.out))):w.heap.size ≤ gb282));have n3_:=Aside0.mk ((by rw [hg];exact (below_size (by repeat (first | (with_reducible first | exact HB.out | apply below_alloc | apply pw_below_drewN | apply below_drew1) | exact HB.out))):w.heap.size ≤ gb282));clear HB;have HB:=n0_;have BK282:=n1_;have GW282:=n2_;have GE282:=n3_;clear n0_ n1_ n2_ n3_;clear hb hbox hg) | ((with_reducible refine gate_dst (N:=3) rfl ?_);refine box_event ?hg (N:=3) ?hd (cs:=#[.int .i64 a1_0,.int .i64 a1_1,.slice A1_2 l1_2.length c1_2]) (t:=25) ?hr ?_;(case hd=>rfl);(case hg=>rfl);(case hr=>first | (go_simp;done) | (go_simp;rfl));intro gb283 hg w25 hbox hb;have n0_:=Aside0.mk (blk_below (g:=gb282) (o:=.cells #[.int .i64 a0_0,.int .i64 a0_1,.slice A0_2 l0_2.length c0_2] 25 (0,0)) (by (with_reducible repeat (first | refine blk_drewN ?_ _ | refine blk_drew ?_ | refine blk_alloc ?_ _));exact BK282.out) hb);have n1_:=Aside0.mk (below_step (by repeat (first | (with_reducible first | exact HB.out | apply below_alloc | apply pw_below_drewN | apply below_drew1 | refine below_set ?_ GE282.out) | exact HB.out)) hb);have n2_:=Aside0.mk (hbox);have n3_:=Aside0.mk ((by rw [hg];exact (below_size (by repeat (first | (with_reducible first | exact HB.out | apply below_alloc | apply pw_below_drewN | apply below_drew1 | refine below_set ?_ GE282.out) | exact HB.out))):w.heap.size ≤ gb283));have n4_:=Aside0.mk ((by rw [hg];exact (below_size (by repeat (first | (with_reducible first | exact HB.out | apply below_alloc | apply pw_below_drewN | apply below_drew1 | refine below_set ?_ GE282.out) | exact HB.out))):w.heap.size ≤ gb283));have n5_:=Aside0.mk ((by rw [hg];exact Nat.ne_of_lt (blk_lt (g:=gb282) (o:=.cells #[.int .i64 a0_0,.int .i64 a0_1,.slice A0_2 l0_2.length c0_2] 25 (0,0)) (by (with_reducible repeat (first | refine blk_drewN ?_ _ | refine blk_drew ?_ | refine blk_alloc ?_ _));exact BK282.out)):gb282 ≠ gb283));have n6_:=Aside0.mk ((by rw [hg];exact Nat.ne_of_gt (blk_lt (g:=gb282) (o:=.cells #[.int .i64 a0_0,.int .i64 a0_1,.slice A0_2 l0_2.length c0_2] 25 (0,0)) (by (with_reducible repeat (first | refine blk_drewN ?_ _ | refine blk_drew ?_ | refine blk_alloc ?_ _));exact BK282.out)):gb283 ≠ gb282));clear BK282;clear HB;have BK282:=n0_;have HB:=n1_;have BK283:=n2_;have GW283:=n3_;have GE283:=n4_;have NB282_283:=n5_;have NB283_282:=n6_;clear n0_ n1_ n2_ n3_ n4_ n5_ n6_;clear hb hbox hg;have hnb26:=NB282_283.out;have hnc26:=NB283_282.out;have hcz27_0:w25.cell? ⟨gb282,0,none⟩ = some (.int .i64 a0_0):=(blk_cell BK282.out 0).trans rfl;have hcz27_1:w25.cell? ⟨gb282,1,none⟩ = some (.int .i64 a0_1):=(blk_cell BK282.out 1).trans rfl;have hcz27_2:w25.cell? ⟨gb282,2,none⟩ = some (.slice A0_2 l0_2.length c0_2):=(blk_cell BK282.out 2).trans rfl;have hfz27_0:=blk_frozen BK282.out 0;have hfz27_1:=blk_frozen BK282.out 1;have hfz27_2:=blk_frozen BK282.out 2;have hcz28_0:w25.cell? ⟨gb283,0,none⟩ = some (.int .i64 a1_0):=(blk_cell BK283.out 0).trans rfl;have hcz28_1:w25.cell? ⟨gb283,1,none⟩ = some (.int .i64 a1_1):=(blk_cell BK283.out 1).trans rfl;have hcz28_2:w25.cell? ⟨gb283,2,none⟩ = some (.slice A1_2 l1_2.length c1_2):=(blk_cell BK283.out 2).trans rfl;have hfz28_0:=blk_frozen BK283.out 0;have hfz28_1:=blk_frozen BK283.out 1;have hfz28_2:=blk_frozen BK283.out 2))
  go_ret
  exact ⟨by first | rfl | (simp [errW_none,errW_some] <;> rfl) | (simp [*,errW_none,errW_some] <;> rfl),by repeat (first | (with_reducible first | exact HB.out | apply below_alloc | apply pw_below_drewN | apply below_drew1 | refine below_set ?_ GE282.out | refine below_set ?_ GE283.out) | exact HB.out)⟩
set_option maxHeartbeats 8000000 in
set_option maxRecDepth 100000 in
theorem laws_eqSealS.calls (k:Nat):∀ (A0:Option Addr) (c0:Nat) (l0:List (S25)) (A1:Option Addr) (c1:Nat) (l1:List (S25)) (r:Bool) (w:World) (hr0:Kd.C k25 w A0 l0.length l0) (hc0:l0.length ≤ c0) (hr1:Kd.C k25 w A1 l1.length l1) (hc1:l1.length ≤ c1) (h:laws_eqSealS.f k l0 l1 = some r),
  Calls Tryd.prog 29 #[.slice A0 l0.length c0,.slice A1 l1.length c1] w fun e w'=>e = .returned (.bool r)∧Below w.heap.size w w':=by
 induction k using Nat.strongRecOn with
 | _ k ih =>
 intro A0 c0 l0 A1 c1 l1 r w hr0 hc0 hr1 hc1 h
 cases k with
 | zero=>exact absurd h (by simp [laws_eqSealS.f])
 | succ k =>
 simp only [laws_eqSealS.f] at h
 have hu25:=Tryd.underlying25
 have HR0:=Aside0.mk hr0
 have HC0:=Aside0.mk hc0
 clear hr0 hc0
 have HR1:=Aside0.mk hr1
 have HC1:=Aside0.mk hc1
 clear hr1 hc1
 have HB:=Aside0.mk (Below.refl w.heap.size w)
 have H:(if (l0.length:Int) = (l1.length:Int) then (laws_eqSealS.l0 k l0 l1 0) else (some false)) = some r:=h
 clear h
 by_cases c3:(l0.length:Int) = (l1.length:Int)
 ·rw [if_pos c3] at H
  have c3b0:((l0.length:Int) == (l1.length:Int)) = true:=beq_iff_eq.mpr c3
  have c3b1:((l0.length:Int) != (l1.length:Int)) = false:=bne_eq_false_iff_eq.mpr c3
  have c3b2:(l0.length == l1.length) = true:=by first | simpa using c3 | (simp at c3 ⊢;omega)
  clear c3
  have H':=Aside0.mk H
  clear H
  go_enter Tryd.func29,Tryd.ntmps29
  go_wp2
  go_loopg [5] k (fun kq v5 w'=>∃ (x5_1:Int),v5 = .int .i64 x5_1∧Aside0 (laws_eqSealS.l0 kq l0 l1 x5_1 = some r)∧Aside0 (kq ≤ k)∧Aside0 (Below w.heap.size w w'))
  case atStart=>exact ⟨(0),(by first | rfl | (simp;done) | (simp [*];done)),H',⟨Nat.le_refl _⟩,⟨by repeat (first | (with_reducible first | exact HB.out | apply below_alloc | apply pw_below_drewN | apply below_drew1) | exact HB.out)⟩⟩
  case round =>
   clear H'
   try clear c1
   try clear c2
   try clear p2
   try clear c3
   try clear c3b0
   try clear c3b1
   try clear c3b2
   obtain ⟨x5_1,rfl,HA,HK1,HB⟩:=hrel
   cases gk with
   | zero=>exact absurd HA.out (by simp [laws_eqSealS.l0])
   | succ k1 =>
    have H:=HA.out
    clear HA
    simp only [laws_eqSealS.l0] at H
    by_cases c4:x5_1 < (l0.length:Int)
    ·rw [if_pos c4] at H
     have c4b0:decide (x5_1 < (l0.length:Int)) = true:=decide_eq_true c4
     clear c4
     by_cases c5:0 ≤ x5_1
     ·rw [if_pos c5] at H
      have c5b0:decide (0 ≤ x5_1) = true:=decide_eq_true c5
      clear c5
      by_cases c6:x5_1 < (l1.length:Int)
      ·rw [if_pos c6] at H
       have c6b0:decide (x5_1 < (l1.length:Int)) = true:=decide_eq_true c6
       clear c6
       replace H:=Option.bind_eq_some_iff.mp H
       obtain ⟨t281,A70,H⟩:=H
       replace H:(if t281 = true then (laws_eqSealS.l0 k1 l0 l1 (wrap64 (x5_1 + 1))) else (some false)) = some r:=H
       have A7:=Aside0.mk A70
       clear A70
       by_cases c8:t281 = true
       ·subst c8
        have H1:(laws_eqSealS.l0 k1 l0 l1 (wrap64 (x5_1 + 1))) = some r:=by rw [if_pos rfl] at H;exact H
        clear H
        have H:=H1
        clear H1
        have H':=Aside0.mk H
        clear H
        try go_wp2
        have n0_:=Aside0.mk (below_drew1 HB.out)
        clear HB
        have HB:=n0_
        clear n0_
        have p279:0 ≤ (x5_1:Int):=of_decide_eq_true (by first | (with_reducible assumption) | assumption)
        have q279:x5_1 < (l0.length:Int):=of_decide_eq_true (by first | (with_reducible assumption) | assumption)
        obtain ⟨ad279,A279_2,c279_2,e279,hx279_0,hx279_1,hx279_2,hl279_2,hi279_2⟩:=at_T25 HR0.out x5_1 p279 q279
        have hw279_2:=hx279_2
        have hw279_1:=hx279_1
        have hw279_0:=hx279_0
        cases e279
        replace hx279_0:=(HB.out.cell (World.block_lt_of_cell? w _ hx279_0)).trans hx279_0
        replace hx279_1:=(HB.out.cell (World.block_lt_of_cell? w _ hx279_1)).trans hx279_1
        replace hx279_2:=(HB.out.cell (World.block_lt_of_cell? w _ hx279_2)).trans hx279_2
        have HR279_2:=Aside0.mk hi279_2
        have HC279_2:=Aside0.mk hl279_2
        clear hi279_2 hl279_2
        replace p279:=eq_true p279
        replace q279:=eq_true q279
        have p280:0 ≤ (x5_1:Int):=of_decide_eq_true (by first | (with_reducible assumption) | assumption)
        have q280:x5_1 < (l1.length:Int):=of_decide_eq_true (by first | (with_reducible assumption) | assumption)
        obtain ⟨ad280,A280_2,c280_2,e280,hx280_0,hx280_1,hx280_2,hl280_2,hi280_2⟩:=at_T25 HR1.out x5_1 p280 q280
        have hw280_2:=hx280_2
        have hw280_1:=hx280_1
        have hw280_0:=hx280_0
        cases e280
        replace hx280_0:=(HB.out.cell (World.block_lt_of_cell? w _ hx280_0)).trans hx280_0
        replace hx280_1:=(HB.out.cell (World.block_lt_of_cell? w _ hx280_1)).trans hx280_1
        replace hx280_2:=(HB.out.cell (World.block_lt_of_cell? w _ hx280_2)).trans hx280_2
        have HR280_2:=Aside0.mk hi280_2
        have HC280_2:=Aside0.mk hl280_2
        clear hi280_2 hl280_2
        replace p280:=eq_true p280
        replace q280:=eq_true q280
        refine start_ (n:=10) (S:=fun w'=>w'.cell? (ad279.add ((x5_1).toNat * 3)) = some (.int .i64 ((rd_T25 l0 x5_1).f0))∧w'.cell? ⟨(ad279.add ((x5_1).toNat * 3)).block,(ad279.add ((x5_1).toNat * 3)).off + 1,none⟩ = some (.int .i64 ((rd_T25 l0 x5_1).f1))∧w'.cell? ⟨(ad279.add ((x5_1).toNat * 3)).block,(ad279.add ((x5_1).toNat * 3)).off + 2,none⟩ = some (.slice A279_2 ((rd_T25 l0 x5_1).f2).length c279_2)∧w'.cell? (ad280.add ((x5_1).toNat * 3)) = some (.int .i64 ((rd_T25 l1 x5_1).f0))∧w'.cell? ⟨(ad280.add ((x5_1).toNat * 3)).block,(ad280.add ((x5_1).toNat * 3)).off + 1,none⟩ = some (.int .i64 ((rd_T25 l1 x5_1).f1))∧w'.cell? ⟨(ad280.add ((x5_1).toNat * 3)).block,(ad280.add ((x5_1).toNat * 3)).off + 2,none⟩ = some (.slice A280_2 ((rd_T25 l1 x5_1).f2).length c280_2)) (ds:=[]) #[false,false,false,false,false,false,false,false,false,false] (by kernel_rfl) rfl rfl ⟨((HB.out.cell (World.block_lt_of_cell? w _ hw279_0)).trans hw279_0),((HB.out.cell (World.block_lt_of_cell? w _ hw279_1)).trans hw279_1),((HB.out.cell (World.block_lt_of_cell? w _ hw279_2)).trans hw279_2),((HB.out.cell (World.block_lt_of_cell? w _ hw280_0)).trans hw280_0),((HB.out.cell (World.block_lt_of_cell? w _ hw280_1)).trans hw280_1),((HB.out.cell (World.block_lt_of_cell? w _ hw280_2)).trans hw280_2)⟩ (fun hHeld=>?_);refine with_tabW laws_eqSealS.tab6 laws_eqSealS.bits6 (fun HT_ HW_=>?_)
        generalize wr.drew = w9 at HB HR279_2 HR280_2 hx279_0 hx279_1 hx279_2 hx280_0 hx280_1 hx280_2 hHeld ⊢
        refine pure_ (i:=0) (N:=some 17) (v:=?_) (a':=?_) #[true,false,false,false,false,false,false,false,false,false] rfl rfl (any_of HT_.out (by kernel_rfl)) (fun _ _ _ h=>h) (Or.inl ⟨by rfl,?_⟩) ?_ ?_
        rotate_left;·intro w';go_simp;with_reducible rfl
        rotate_left;·simp only [Act.put,List.setIfInBounds_toArray,List.set_cons_zero,List.set_cons_succ,i64_w,i32_w];rfl
        refine pure_ (i:=1) (N:=some 18) (v:=?_) (a':=?_) #[true,true,false,false,false,false,false,false,false,false] rfl rfl (any_of HT_.out (by kernel_rfl)) (fun _ _ _ h=>h) (Or.inl ⟨by rfl,?_⟩) ?_ ?_
        rotate_left;·intro w';go_simp;with_reducible rfl
        rotate_left;·simp only [Act.put,List.setIfInBounds_toArray,List.set_cons_zero,List.set_cons_succ,i64_w,i32_w];rfl
        refine pure_ (i:=2) (N:=some 19) (v:=?_) (a':=?_) #[true,true,true,false,false,false,false,false,false,false] rfl rfl (any_of HT_.out (by kernel_rfl)) (fun _ _ _ h=>h) (Or.inl ⟨by rfl,?_⟩) ?_ ?_
        rotate_left;·intro w';go_simp;with_reducible rfl
        rotate_left;·simp only [Act.put,List.setIfInBounds_toArray,List.set_cons_zero,List.set_cons_succ,i64_w,i32_w];rfl
        refine pure_ (i:=4) (N:=some 21) (v:=?_) (a':=?_) #[true,true,true,false,true,false,false,false,false,false] rfl rfl (any_of HT_.out (by kernel_rfl)) (fun _ _ _ h=>h) (Or.inl ⟨by rfl,?_⟩) ?_ ?_
        rotate_left;·intro w';go_simp;with_reducible rfl
        rotate_left;·simp only [Act.put,List.setIfInBounds_toArray,List.set_cons_zero,List.set_cons_succ,i64_w,i32_w];rfl
        refine pure_ (i:=5) (N:=some 22) (v:=?_) (a':=?_) #[true,true,true,false,true,true,false,false,false,false] rfl rfl (any_of HT_.out (by kernel_rfl)) (fun _ _ _ h=>h) (Or.inl ⟨by rfl,?_⟩) ?_ ?_
        rotate_left;·intro w';go_simp;with_reducible rfl
        rotate_left;·simp only [Act.put,List.setIfInBounds_toArray,List.set_cons_zero,List.set_cons_succ,i64_w,i32_w];rfl
        refine pure_ (i:=6) (N:=some 23) (v:=?_) (a':=?_) #[true,true,true,false,true,true,true,false,false,false] rfl rfl (any_of HT_.out (by kernel_rfl)) (fun _ _ _ h=>h) (Or.inl ⟨by rfl,?_⟩) ?_ ?_
        rotate_left;·intro w';go_simp;with_reducible rfl
        rotate_left;·simp only [Act.put,List.setIfInBounds_toArray,List.set_cons_zero,List.set_cons_succ,i64_w,i32_w];rfl
        refine take_ (i:=3) (N:=some 20) (v:=?_) (a':=?_) #[true,true,true,true,true,true,true,false,false,false] rfl rfl (take_ofW HT_.out HW_.out (by kernel_rfl)) (fun _ _ _ h=>h) (Or.inl ⟨by rfl,?_⟩) hHeld ?_ ?_
        rotate_left;·rintro w' ⟨s0,s1,s2,s3,s4,s5⟩;go_simp;with_reducible rfl
        rotate_left;·simp only [Act.put,List.setIfInBounds_toArray,List.set_cons_zero,List.set_cons_succ,i64_w,i32_w];rfl
        refine take_ (i:=7) (N:=some 24) (v:=?_) (a':=?_) #[true,true,true,true,true,true,true,true,false,false] rfl rfl (take_ofW HT_.out HW_.out (by kernel_rfl)) (fun _ _ _ h=>h) (Or.inl ⟨by rfl,?_⟩) hHeld ?_ ?_
        rotate_left;·rintro w' ⟨s0,s1,s2,s3,s4,s5⟩;go_simp;with_reducible rfl
        rotate_left;·simp only [Act.put,List.setIfInBounds_toArray,List.set_cons_zero,List.set_cons_succ,i64_w,i32_w];rfl
        refine one_ (i:=8) (N:=some 25) #[true,true,true,true,true,true,true,true,true,false] rfl rfl (one_of HT_.out (by kernel_rfl)) (by decide) (fun K hK=>?_)
        refine goes_ Tryd.func22 (by kernel_rfl) rfl #[.agg #[.int .i64 ((rd_T25 l0 x5_1).f0),.int .i64 ((rd_T25 l0 x5_1).f1),.slice A279_2 ((rd_T25 l0 x5_1).f2).length c279_2],.agg #[.int .i64 ((rd_T25 l1 x5_1).f0),.int .i64 ((rd_T25 l1 x5_1).f1),.slice A280_2 ((rd_T25 l1 x5_1).f2).length c280_2]] (by rfl) rfl rfl (by (try simp only [List.map_toArray,List.map_cons,List.map_nil]);first | done | rfl | (simp only [List.length_drop,List.length_take];rfl)) ?_
        with_reducible refine (laws_eqSeal.calls_of k1 (fun j_ hj_=>ih j_ (by first | omega | (have:=HK1.out;omega) | (have:=HK1.out;have:=HK2.out;omega))) ((rd_T25 l0 x5_1).f0) ((rd_T25 l0 x5_1).f1) _ _ ((rd_T25 l0 x5_1).f2) ((rd_T25 l1 x5_1).f0) ((rd_T25 l1 x5_1).f1) _ _ ((rd_T25 l1 x5_1).f2) true _ ?side1 ?side2 ?side3 ?side4 A7.out).mono ?_
        (case side1=>repeat (first | exact (Kd.C_below HR279_2.out HB.out) | (with_reducible refine Kd.C_alloc ?_ _) | (with_reducible refine Kd.C_drewN ?_ _) | (with_reducible refine Kd.C_drew ?_)))
        (case side2=>exact HC279_2.out)
        (case side3=>repeat (first | exact (Kd.C_below HR280_2.out HB.out) | (with_reducible refine Kd.C_alloc ?_ _) | (with_reducible refine Kd.C_drewN ?_ _) | (with_reducible refine Kd.C_drew ?_)))
        (case side4=>exact HC280_2.out)
        rintro e w10 ⟨rfl,hb⟩
        refine ⟨_,rfl,?_⟩
        have n0_:=Aside0.mk (below_step (by repeat (first | (with_reducible first | exact HB.out | apply below_alloc | apply pw_below_drewN | apply below_drew1) | exact HB.out)) hb)
        clear HB
        have HB:=n0_
        clear n0_
        (try clear hb)
        (try clear hb2)
        (try clear hk)
        (try clear hi)
        refine hK.out _ _ ⟨((HB.out.cell (World.block_lt_of_cell? w _ hw279_0)).trans hw279_0),((HB.out.cell (World.block_lt_of_cell? w _ hw279_1)).trans hw279_1),((HB.out.cell (World.block_lt_of_cell? w _ hw279_2)).trans hw279_2),((HB.out.cell (World.block_lt_of_cell? w _ hw280_0)).trans hw280_0),((HB.out.cell (World.block_lt_of_cell? w _ hw280_1)).trans hw280_1),((HB.out.cell (World.block_lt_of_cell? w _ hw280_2)).trans hw280_2)⟩ (fun hHeld=>?_)
        clear hK K
        refine norm_ (a':=?_) ?_ ?_
        rotate_left
        ·show Act.put _ (some 25) _ = _
         simp only [Act.put,List.setIfInBounds_toArray,List.set_cons_zero,List.set_cons_succ,i64_w,i32_w]
         rfl
        refine pure_ (i:=9) (N:=some 26) (v:=?_) (a':=?_) #[true,true,true,true,true,true,true,true,true,true] rfl rfl (any_of HT_.out (by kernel_rfl)) (fun _ _ _ h=>h) (Or.inl ⟨by rfl,?_⟩) ?_ ?_
        rotate_left;·intro w';go_simp;with_reducible rfl
        rotate_left;·simp only [Act.put,List.setIfInBounds_toArray,List.set_cons_zero,List.set_cons_succ,i64_w,i32_w];rfl
        refine done_ (done_of HT_.out (by kernel_rfl)) ?_
        try go_wp2
        go_roundg k1
        case measure=>have:=HK1.out;omega
        case rel=>exact ⟨(wrap64 (x5_1 + 1)),(by first | rfl | (simp;done) | (simp [*];done)),H',⟨by have:=HK1.out;omega⟩,⟨by repeat (first | (with_reducible first | exact HB.out | apply below_alloc | apply pw_below_drewN | apply below_drew1) | exact HB.out)⟩⟩
       ·replace c8:=Bool.eq_false_iff.mpr c8
        subst c8
        have H1:(some false) = some r:=by rw [if_neg (show ¬ (false = true) by decide)] at H;exact H
        clear H
        have H:=H1
        clear H1
        obtain rfl:=Option.some.inj H
        try go_wp2
        have n0_:=Aside0.mk (below_drew1 HB.out)
        clear HB
        have HB:=n0_
        clear n0_
        have p279:0 ≤ (x5_1:Int):=of_decide_eq_true (by first | (with_reducible assumption) | assumption)
        have q279:x5_1 < (l0.length:Int):=of_decide_eq_true (by first | (with_reducible assumption) | assumption)
        obtain ⟨ad279,A279_2,c279_2,e279,hx279_0,hx279_1,hx279_2,hl279_2,hi279_2⟩:=at_T25 HR0.out x5_1 p279 q279
        have hw279_2:=hx279_2
        have hw279_1:=hx279_1
        have hw279_0:=hx279_0
        cases e279
        replace hx279_0:=(HB.out.cell (World.block_lt_of_cell? w _ hx279_0)).trans hx279_0
        replace hx279_1:=(HB.out.cell (World.block_lt_of_cell? w _ hx279_1)).trans hx279_1
        replace hx279_2:=(HB.out.cell (World.block_lt_of_cell? w _ hx279_2)).trans hx279_2
        have HR279_2:=Aside0.mk hi279_2
        have HC279_2:=Aside0.mk hl279_2
        clear hi279_2 hl279_2
        replace p279:=eq_true p279
        replace q279:=eq_true q279
        have p280:0 ≤ (x5_1:Int):=of_decide_eq_true (by first | (with_reducible assumption) | assumption)
        have q280:x5_1 < (l1.length:Int):=of_decide_eq_true (by first | (with_reducible assumption) | assumption)
        obtain ⟨ad280,A280_2,c280_2,e280,hx280_0,hx280_1,hx280_2,hl280_2,hi280_2⟩:=at_T25 HR1.out x5_1 p280 q280
        have hw280_2:=hx280_2
        have hw280_1:=hx280_1
        have hw280_0:=hx280_0
        cases e280
        replace hx280_0:=(HB.out.cell (World.block_lt_of_cell? w _ hx280_0)).trans hx280_0
        replace hx280_1:=(HB.out.cell (World.block_lt_of_cell? w _ hx280_1)).trans hx280_1
        replace hx280_2:=(HB.out.cell (World.block_lt_of_cell? w _ hx280_2)).trans hx280_2
        have HR280_2:=Aside0.mk hi280_2
        have HC280_2:=Aside0.mk hl280_2
        clear hi280_2 hl280_2
        replace p280:=eq_true p280
        replace q280:=eq_true q280
        refine start_ (n:=10) (S:=fun w'=>w'.cell? (ad279.add ((x5_1).toNat * 3)) = some (.int .i64 ((rd_T25 l0 x5_1).f0))∧w'.cell? ⟨(ad279.add ((x5_1).toNat * 3)).block,(ad279.add ((x5_1).toNat * 3)).off + 1,none⟩ = some (.int .i64 ((rd_T25 l0 x5_1).f1))∧w'.cell? ⟨(ad279.add ((x5_1).toNat * 3)).block,(ad279.add ((x5_1).toNat * 3)).off + 2,none⟩ = some (.slice A279_2 ((rd_T25 l0 x5_1).f2).length c279_2)∧w'.cell? (ad280.add ((x5_1).toNat * 3)) = some (.int .i64 ((rd_T25 l1 x5_1).f0))∧w'.cell? ⟨(ad280.add ((x5_1).toNat * 3)).block,(ad280.add ((x5_1).toNat * 3)).off + 1,none⟩ = some (.int .i64 ((rd_T25 l1 x5_1).f1))∧w'.cell? ⟨(ad280.add ((x5_1).toNat * 3)).block,(ad280.add ((x5_1).toNat * 3)).off + 2,none⟩ = some (.slice A280_2 ((rd_T25 l1 x5_1).f2).length c280_2)) (ds:=[]) #[false,false,false,false,false,false,false,false,false,false] (by kernel_rfl) rfl rfl ⟨((HB.out.cell (World.block_lt_of_cell? w _ hw279_0)).trans hw279_0),((HB.out.cell (World.block_lt_of_cell? w _ hw279_1)).trans hw279_1),((HB.out.cell (World.block_lt_of_cell? w _ hw279_2)).trans hw279_2),((HB.out.cell (World.block_lt_of_cell? w _ hw280_0)).trans hw280_0),((HB.out.cell (World.block_lt_of_cell? w _ hw280_1)).trans hw280_1),((HB.out.cell (World.block_lt_of_cell? w _ hw280_2)).trans hw280_2)⟩ (fun hHeld=>?_);refine with_tabW laws_eqSealS.tab6 laws_eqSealS.bits6 (fun HT_ HW_=>?_)
        generalize wr.drew = w11 at HB HR279_2 HR280_2 hx279_0 hx279_1 hx279_2 hx280_0 hx280_1 hx280_2 hHeld ⊢
        refine pure_ (i:=0) (N:=some 17) (v:=?_) (a':=?_) #[true,false,false,false,false,false,false,false,false,false] rfl rfl (any_of HT_.out (by kernel_rfl)) (fun _ _ _ h=>h) (Or.inl ⟨by rfl,?_⟩) ?_ ?_
        rotate_left;·intro w';go_simp;with_reducible rfl
        rotate_left;·simp only [Act.put,List.setIfInBounds_toArray,List.set_cons_zero,List.set_cons_succ,i64_w,i32_w];rfl
        refine pure_ (i:=1) (N:=some 18) (v:=?_) (a':=?_) #[true,true,false,false,false,false,false,false,false,false] rfl rfl (any_of HT_.out (by kernel_rfl)) (fun _ _ _ h=>h) (Or.inl ⟨by rfl,?_⟩) ?_ ?_
        rotate_left;·intro w';go_simp;with_reducible rfl
        rotate_left;·simp only [Act.put,List.setIfInBounds_toArray,List.set_cons_zero,List.set_cons_succ,i64_w,i32_w];rfl
        refine pure_ (i:=2) (N:=some 19) (v:=?_) (a':=?_) #[true,true,true,false,false,false,false,false,false,false] rfl rfl (any_of HT_.out (by kernel_rfl)) (fun _ _ _ h=>h) (Or.inl ⟨by rfl,?_⟩) ?_ ?_
        rotate_left;·intro w';go_simp;with_reducible rfl
        rotate_left;·simp only [Act.put,List.setIfInBounds_toArray,List.set_cons_zero,List.set_cons_succ,i64_w,i32_w];rfl
        refine pure_ (i:=4) (N:=some 21) (v:=?_) (a':=?_) #[true,true,true,false,true,false,false,false,false,false] rfl rfl (any_of HT_.out (by kernel_rfl)) (fun _ _ _ h=>h) (Or.inl ⟨by rfl,?_⟩) ?_ ?_
        rotate_left;·intro w';go_simp;with_reducible rfl
        rotate_left;·simp only [Act.put,List.setIfInBounds_toArray,List.set_cons_zero,List.set_cons_succ,i64_w,i32_w];rfl
        refine pure_ (i:=5) (N:=some 22) (v:=?_) (a':=?_) #[true,true,true,false,true,true,false,false,false,false] rfl rfl (any_of HT_.out (by kernel_rfl)) (fun _ _ _ h=>h) (Or.inl ⟨by rfl,?_⟩) ?_ ?_
        rotate_left;·intro w';go_simp;with_reducible rfl
        rotate_left;·simp only [Act.put,List.setIfInBounds_toArray,List.set_cons_zero,List.set_cons_succ,i64_w,i32_w];rfl
        refine pure_ (i:=6) (N:=some 23) (v:=?_) (a':=?_) #[true,true,true,false,true,true,true,false,false,false] rfl rfl (any_of HT_.out (by kernel_rfl)) (fun _ _ _ h=>h) (Or.inl ⟨by rfl,?_⟩) ?_ ?_
        rotate_left;·intro w';go_simp;with_reducible rfl
        rotate_left;·simp only [Act.put,List.setIfInBounds_toArray,List.set_cons_zero,List.set_cons_succ,i64_w,i32_w];rfl
        refine take_ (i:=3) (N:=some 20) (v:=?_) (a':=?_) #[true,true,true,true,true,true,true,false,false,false] rfl rfl (take_ofW HT_.out HW_.out (by kernel_rfl)) (fun _ _ _ h=>h) (Or.inl ⟨by rfl,?_⟩) hHeld ?_ ?_
        rotate_left;·rintro w' ⟨s0,s1,s2,s3,s4,s5⟩;go_simp;with_reducible rfl
        rotate_left;·simp only [Act.put,List.setIfInBounds_toArray,List.set_cons_zero,List.set_cons_succ,i64_w,i32_w];rfl
        refine take_ (i:=7) (N:=some 24) (v:=?_) (a':=?_) #[true,true,true,true,true,true,true,true,false,false] rfl rfl (take_ofW HT_.out HW_.out (by kernel_rfl)) (fun _ _ _ h=>h) (Or.inl ⟨by rfl,?_⟩) hHeld ?_ ?_
        rotate_left;·rintro w' ⟨s0,s1,s2,s3,s4,s5⟩;go_simp;with_reducible rfl
        rotate_left;·simp only [Act.put,List.setIfInBounds_toArray,List.set_cons_zero,List.set_cons_succ,i64_w,i32_w];rfl
        refine one_ (i:=8) (N:=some 25) #[true,true,true,true,true,true,true,true,true,false] rfl rfl (one_of HT_.out (by kernel_rfl)) (by decide) (fun K hK=>?_)
        refine goes_ Tryd.func22 (by kernel_rfl) rfl #[.agg #[.int .i64 ((rd_T25 l0 x5_1).f0),.int .i64 ((rd_T25 l0 x5_1).f1),.slice A279_2 ((rd_T25 l0 x5_1).f2).length c279_2],.agg #[.int .i64 ((rd_T25 l1 x5_1).f0),.int .i64 ((rd_T25 l1 x5_1).f1),.slice A280_2 ((rd_T25 l1 x5_1).f2).length c280_2]] (by rfl) rfl rfl (by (try simp only [List.map_toArray,List.map_cons,List.map_nil]);first | done | rfl | (simp only [List.length_drop,List.length_take];rfl)) ?_
        with_reducible refine (laws_eqSeal.calls_of k1 (fun j_ hj_=>ih j_ (by first | omega | (have:=HK1.out;omega) | (have:=HK1.out;have:=HK2.out;omega))) ((rd_T25 l0 x5_1).f0) ((rd_T25 l0 x5_1).f1) _ _ ((rd_T25 l0 x5_1).f2) ((rd_T25 l1 x5_1).f0) ((rd_T25 l1 x5_1).f1) _ _ ((rd_T25 l1 x5_1).f2) false _ ?side1 ?side2 ?side3 ?side4 A7.out).mono ?_
        (case side1=>repeat (first | exact (Kd.C_below HR279_2.out HB.out) | (with_reducible refine Kd.C_alloc ?_ _) | (with_reducible refine Kd.C_drewN ?_ _) | (with_reducible refine Kd.C_drew ?_)))
        (case side2=>exact HC279_2.out)
        (case side3=>repeat (first | exact (Kd.C_below HR280_2.out HB.out) | (with_reducible refine Kd.C_alloc ?_ _) | (with_reducible refine Kd.C_drewN ?_ _) | (with_reducible refine Kd.C_drew ?_)))
        (case side4=>exact HC280_2.out)
        rintro e w12 ⟨rfl,hb⟩
        refine ⟨_,rfl,?_⟩
        have n0_:=Aside0.mk (below_step (by repeat (first | (with_reducible first | exact HB.out | apply below_alloc | apply pw_below_drewN | apply below_drew1) | exact HB.out)) hb)
        clear HB
        have HB:=n0_
        clear n0_
        (try clear hb)
        (try clear hb2)
        (try clear hk)
        (try clear hi)
        refine hK.out _ _ ⟨((HB.out.cell (World.block_lt_of_cell? w _ hw279_0)).trans hw279_0),((HB.out.cell (World.block_lt_of_cell? w _ hw279_1)).trans hw279_1),((HB.out.cell (World.block_lt_of_cell? w _ hw279_2)).trans hw279_2),((HB.out.cell (World.block_lt_of_cell? w _ hw280_0)).trans hw280_0),((HB.out.cell (World.block_lt_of_cell? w _ hw280_1)).trans hw280_1),((HB.out.cell (World.block_lt_of_cell? w _ hw280_2)).trans hw280_2)⟩ (fun hHeld=>?_)
        clear hK K
        refine norm_ (a':=?_) ?_ ?_
        rotate_left
        ·show Act.put _ (some 25) _ = _
         simp only [Act.put,List.setIfInBounds_toArray,List.set_cons_zero,List.set_cons_succ,i64_w,i32_w]
         rfl
        refine pure_ (i:=9) (N:=some 26) (v:=?_) (a':=?_) #[true,true,true,true,true,true,true,true,true,true] rfl rfl (any_of HT_.out (by kernel_rfl)) (fun _ _ _ h=>h) (Or.inl ⟨by rfl,?_⟩) ?_ ?_
        rotate_left;·intro w';go_simp;with_reducible rfl
        rotate_left;·simp only [Act.put,List.setIfInBounds_toArray,List.set_cons_zero,List.set_cons_succ,i64_w,i32_w];rfl
        refine done_ (done_of HT_.out (by kernel_rfl)) ?_
        try go_wp2
        go_ret
        exact ⟨by first | rfl | (simp [errW_none,errW_some] <;> rfl) | (simp [*,errW_none,errW_some] <;> rfl),by repeat (first | (with_reducible first | exact HB.out | apply below_alloc | apply pw_below_drewN | apply below_drew1) | exact HB.out)⟩
      ·rw [if_neg c6] at H
       exact absurd H (by simp)
     ·rw [if_neg c5] at H
      exact absurd H (by simp)
    ·rw [if_neg c4] at H
     have c4b0:decide (x5_1 < (l0.length:Int)) = false:=decide_eq_false c4
     clear c4
     obtain rfl:=Option.some.inj H
     go_wp2
     go_ret
     exact ⟨by first | rfl | (simp [errW_none,errW_some] <;> rfl) | (simp [*,errW_none,errW_some] <;> rfl),by repeat (first | (with_reducible first | exact HB.out | apply below_alloc | apply pw_below_drewN | apply below_drew1) | exact HB.out)⟩
 ·rw [if_neg c3] at H
  have c3b0:((l0.length:Int) == (l1.length:Int)) = false:=beq_eq_false_iff_ne.mpr c3
  have c3b1:((l0.length:Int) != (l1.length:Int)) = true:=bne_iff_ne.mpr c3
  have c3b2:(l0.length == l1.length) = false:=by first | simpa using c3 | (simp at c3 ⊢;omega)
  obtain rfl:=Option.some.inj H
  go_enter Tryd.func29,Tryd.ntmps29
  go_wp2
  go_ret
  exact ⟨by first | rfl | (simp [errW_none,errW_some] <;> rfl) | (simp [*,errW_none,errW_some] <;> rfl),by repeat (first | (with_reducible first | exact HB.out | apply below_alloc | apply pw_below_drewN | apply below_drew1) | exact HB.out)⟩
theorem laws_eqSeal.calls (k:Nat) (a0_0:Int) (a0_1:Int) (A0_2:Option Addr) (c0_2:Nat) (l0_2:List (S25)) (a1_0:Int) (a1_1:Int) (A1_2:Option Addr) (c1_2:Nat) (l1_2:List (S25)) (r:Bool) (w:World) (hr0_2:Kd.C k25 w A0_2 l0_2.length l0_2) (hc0_2:l0_2.length ≤ c0_2) (hr1_2:Kd.C k25 w A1_2 l1_2.length l1_2) (hc1_2:l1_2.length ≤ c1_2) (h:laws_eqSeal.f k a0_0 a0_1 l0_2 a1_0 a1_1 l1_2 = some r) :
  Calls Tryd.prog 22 #[.agg #[.int .i64 a0_0,.int .i64 a0_1,.slice A0_2 l0_2.length c0_2],.agg #[.int .i64 a1_0,.int .i64 a1_1,.slice A1_2 l1_2.length c1_2]] w fun e w'=>e = .returned (.bool r)∧Below w.heap.size w w':=laws_eqSeal.calls_of k (fun j_ _=>laws_eqSealS.calls j_) a0_0 a0_1 A0_2 c0_2 l0_2 a1_0 a1_1 A1_2 c1_2 l1_2 r w hr0_2 hc0_2 hr1_2 hc1_2 h
end Go.Proofs.YtbcjpdahdecehaaDoor.P
