/- What the Go functions that the laws reach compute, and that their calls come to just that: told by a program of this session (aprint.py). No condition. -/
import Derived.Test.YthljlnkanllpnaaP0
namespace Go.Proofs.Ythljlnkanllpnaa.P
open Go.RowKit Go.Proofs.YthljlnkanllpnaaW.PrintWords Go.Proofs.YthljlnkanllpnaaW.PrintLast Go.Proofs.YthljlnkanllpnaaW.PrintMore
attribute [local go_sem] max2_int min2_int max_two min_two max_three min_three max_four min_four
set_option linter.unusedVariables false
set_option linter.unusedSimpArgs false
theorem eqA32 (d:Nat) (w:World) (x0 y0:Int) (x1 y1:Int) :
  (Op.equalIn (d + 2) 32 (.agg #[.int .i64 x0,.int .i64 x1]) (.agg #[.int .i64 y0,.int .i64 y1])).run Try.prog w = .ok (x0 == y0 && (x1 == y1)) w:=by
 refine eqA_of Try.underlying32 (by kernel_rfl) ?_
 refine eqf_cons (by rfl) (by go_simp;rfl) (by go_simp;rfl) (by go_simp) ?_
 exact eqf_last (by rfl) (by go_simp;rfl) (by go_simp;rfl) (by go_simp)
def IsS86 (w0 W:World) (g:Nat) (f0:List Int) (f1:Int):Prop:=∃ A0 c0,W.heap[g]? = some (.cells #[.slice A0 f0.length c0,.int .i64 f1] 86 (0,0))∧w0.heap.size ≤ g∧Kd.C (Kd.int .u8) w0 A0 f0.length f0
theorem IsS86.grown {w0 W:World} {g:Nat} {f0:List Int} {f1:Int} {W1:World} {row:Option Nat} (h:IsS86 w0 W g f0 f1) (hw:W.grownBy W1 row) (hne:some g ≠ row):IsS86 w0 W1 g f0 f1:=by
 obtain ⟨A0,c0,hb,hg,hr0⟩:=h
 exact ⟨A0,c0,blk_grown hb hw hne,hg,hr0⟩
theorem IsS86.below {w0 W:World} {g:Nat} {f0:List Int} {f1:Int} {W1:World} (h:IsS86 w0 W g f0 f1) (hw:Below W.heap.size W W1):IsS86 w0 W1 g f0 f1:=h.grown (grown_of_below hw none) (by simp)
theorem IsS86.alloc {w0 W:World} {g:Nat} {f0:List Int} {f1:Int} (h:IsS86 w0 W g f0 f1) (o:Obj):IsS86 w0 (W.alloc o) g f0 f1:=h.below (below_alloc (Below.refl _ _) o)
theorem IsS86.drewN {w0 W:World} {g:Nat} {f0:List Int} {f1:Int} (h:IsS86 w0 W g f0 f1) (m:Nat):IsS86 w0 (W.drewN m) g f0 f1:=h
theorem IsS86.drew {w0 W:World} {g:Nat} {f0:List Int} {f1:Int} (h:IsS86 w0 W g f0 f1):IsS86 w0 W.drew g f0 f1:=h
theorem IsS86.at_ {w0 W:World} {g:Nat} {f0:List Int} {f1:Int} {w':World} {m:Nat} (hq:W.drewN m = w') (h:IsS86 w0 W g f0 f1):IsS86 w0 w' g f0 f1:=by subst hq;exact IsS86.drewN h m
theorem IsS86.apart {w0 W:World} {g:Nat} {f0:List Int} {f1:Int} {α:Type} {d:Kd α} {e:Nat} {base:Nat} {ok:Nat → Prop} {v:Value} {xs:List α} (h:IsS86 w0 W g f0 f1) (ho:d.R e W base ok v xs) (ht:∀ q,q ∈ e :: d.E → q ≠ 86):d.R e W base (fun k=>ok k∧k ≠ g) v xs:=by
 obtain ⟨A0,c0,hb,hg,hr0⟩:=h
 exact Kd.R_types ho hb ht
theorem IsS86.own_ne {w0 W:World} {g:Nat} {f0:List Int} {f1:Int} {α:Type} {d:Kd α} {e:Nat} {base:Nat} {ok:Nat → Prop} {v:Value} {xs:List α} (h:IsS86 w0 W g f0 f1) (ho:d.R e W base ok v xs) (ht:e ≠ 86):some g ≠ v.ownBlock:=by
 obtain ⟨A0,c0,hb,hg,hr0⟩:=h
 exact Kd.R_ne ho hb ht
theorem IsS86.apartS {w0 W:World} {g:Nat} {f0:List Int} {f1:Int} {α:Type} {d:Kd α} {e:Nat} {base:Nat} {ok:Nat → Prop} {v:Value} {xs:List α} (h:IsS86 w0 W g f0 f1) (ho:d.S e W base ok v xs) (ht:∀ q,q ∈ e :: d.E → q ≠ 86):d.S e W base (fun k=>ok k∧k ≠ g) v xs:=by
 obtain ⟨A0,c0,hb,hg,hr0⟩:=h
 exact Kd.S_types ho hb ht
theorem IsS86.own_neS {w0 W:World} {g:Nat} {f0:List Int} {f1:Int} {α:Type} {d:Kd α} {e:Nat} {base:Nat} {ok:Nat → Prop} {v:Value} {xs:List α} (h:IsS86 w0 W g f0 f1) (ho:d.S e W base ok v xs) (ht:e ≠ 86):some g ≠ v.ownBlock:=by
 obtain ⟨A0,c0,hb,hg,hr0⟩:=h
 exact Kd.S_ne ho hb ht
theorem IsS86.lt {w0 W:World} {g:Nat} {f0:List Int} {f1:Int} (h:IsS86 w0 W g f0 f1):g < W.heap.size:=by
 obtain ⟨A0,c0,hb,hg,hr0⟩:=h
 exact blk_lt hb
theorem IsS86.ge {w0 W:World} {g:Nat} {f0:List Int} {f1:Int} (h:IsS86 w0 W g f0 f1):w0.heap.size ≤ g:=by
 obtain ⟨A0,c0,hb,hg,hr0⟩:=h
 exact hg
theorem IsS86.far {w0 W:World} {g:Nat} {f0:List Int} {f1:Int} {p:Addr} (h:IsS86 w0 W g f0 f1) (hne:g ≠ p.block) (u:Value):IsS86 w0 (W.setCell p u) g f0 f1:=by
 obtain ⟨A0,c0,hb,hg,hr0⟩:=h
 exact ⟨A0,c0,blk_far hb hne u,hg,hr0⟩
theorem cellS86_0 {W:World} {g:Nat} {A0:Option Addr} {c0:Nat} {f0:List Int} {f1:Int} (h:W.heap[g]? = some (.cells #[.slice A0 f0.length c0,.int .i64 f1] 86 (0,0))):W.cell? ⟨g,0,none⟩ = some (.slice A0 f0.length c0):=(blk_cell h 0).trans rfl
theorem cellS86_1 {W:World} {g:Nat} {A0:Option Addr} {c0:Nat} {f0:List Int} {f1:Int} (h:W.heap[g]? = some (.cells #[.slice A0 f0.length c0,.int .i64 f1] 86 (0,0))):W.cell? ⟨g,1,none⟩ = some (.int .i64 f1):=(blk_cell h 1).trans rfl
theorem IsS86.set_1 {w0 W:World} {g:Nat} {f0:List Int} {f1:Int} (h:IsS86 w0 W g f0 f1) (x:Int):IsS86 w0 (W.setCell ⟨g,1,none⟩ (.int .i64 x)) g f0 x:=by
 obtain ⟨A0,c0,hb,hg,hr0⟩:=h
 exact ⟨A0,c0,by simpa using blk_set hb 1 (.int .i64 x),hg,hr0⟩
attribute [local go_sem high] eqA32
def spec_l6In.f (a0:Int) (a1:Int) (a2:Int):Option (Bool):=if a0 ≥ a1 then (some (decide (a0 ≤ a2))) else (some false)
set_option maxHeartbeats 8000000 in
set_option maxRecDepth 100000 in
theorem spec_l6In.calls (a0:Int) (a1:Int) (a2:Int) (r:Bool) (w:World) (h:spec_l6In.f a0 a1 a2 = some r) :
  Calls Try.prog 71 #[.int .i64 a0,.int .i64 a1,.int .i64 a2] w fun e w'=>e = .returned (.bool r)∧Drawn0 w w':=by
 have H:(if a0 ≥ a1 then (some (decide (a0 ≤ a2))) else (some false)) = some r:=h
 clear h
 by_cases c4:a0 ≥ a1
 ·rw [if_pos c4] at H
  have c4b0:decide (a1 ≤ a0) = true:=decide_eq_true c4
  clear c4
  obtain rfl:=Option.some.inj H
  go_enter Try.func71,Try.ntmps71
  go_wp2
  go_ret
  exact ⟨by first | rfl | (simp;done) | (simp [*];done),by repeat (first | exact Drawn0.refl _ | apply Drawn0.step)⟩
 ·rw [if_neg c4] at H
  have c4b0:decide (a1 ≤ a0) = false:=decide_eq_false c4
  clear c4
  obtain rfl:=Option.some.inj H
  go_enter Try.func71,Try.ntmps71
  go_wp2
  go_ret
  exact ⟨by first | rfl | (simp;done) | (simp [*];done),by repeat (first | exact Drawn0.refl _ | apply Drawn0.step)⟩
def spec_ActOk.f (a0:Int):Option (Bool):=(spec_l6In.f a0 (-4) 4).bind fun t138=>(some t138)
set_option maxHeartbeats 8000000 in
set_option maxRecDepth 100000 in
theorem spec_ActOk.calls (a0:Int) (r:Bool) (w:World) (h:spec_ActOk.f a0 = some r) :
  Calls Try.prog 92 #[.int .i64 a0] w fun e w'=>e = .returned (.bool r)∧Drawn0 w w':=by
 have H:((spec_l6In.f a0 (-4) 4).bind fun t138=>(some t138)) = some r:=h
 clear h
 replace H:=Option.bind_eq_some_iff.mp H
 obtain ⟨t138,A20,H⟩:=H
 replace H:(some t138) = some r:=H
 have A2:=Aside0.mk A20
 clear A20
 obtain rfl:=Option.some.inj H
 go_enter Try.func92,Try.ntmps92
 go_wp2_with (first | ((with_reducible refine gate_callee (f:=71) rfl ?_);refine goesL_ (some 4) rfl rfl Try.func71 (by kernel_rfl) rfl #[.int .i64 a0,.int .i64 (-4),.int .i64 4] rfl (by (try simp only [List.map_toArray,List.map_cons,List.map_nil]);first | done | rfl | (simp only [List.length_drop,List.length_take];rfl)) ?_;(with_reducible refine (spec_l6In.calls a0 (-4) 4 t138 _ A2.out).mono ?_);rintro e w' ⟨rfl,⟨nd,rfl⟩⟩;refine ⟨_,rfl,?_⟩))
 go_ret
 exact ⟨by first | rfl | (simp;done) | (simp [*];done),by repeat (first | exact Drawn0.refl _ | apply Drawn0.step)⟩
mutual
def spec_l19Threads.l0:Nat → List (List Int) → Int → Option (Bool)
 | 0,_,_=>none
 | k + 1,x0,x3=>if x3 < (x0.length:Int) then (if 0 ≤ x3 then (if ((rd_L2 x0 x3).length:Int) > 8 then (some false) else (spec_l19Threads.l1 k x0 x3 0)) else (none)) else (some true)
def spec_l19Threads.l1:Nat → List (List Int) → Int → Int → Option (Bool)
 | 0,_,_,_=>none
 | k + 1,x0,x3,x4=>if 0 ≤ x3 then (if x3 < (x0.length:Int) then (if x4 < ((rd_L2 x0 x3).length:Int) then (if 0 ≤ x4 then ((spec_ActOk.f (rd (rd_L2 x0 x3) x4)).bind fun t143=>(if t143 = true then (spec_l19Threads.l1 k x0 x3 (wrap64 (x4 + 1))) else (some false))) else (none)) else (spec_l19Threads.l0 k x0 (wrap64 (x3 + 1)))) else (none)) else (none)
end
def spec_l19Threads.f (k:Nat) (l0:List (List Int)):Option (Bool):=if (l0.length:Int) > 4 then (some false) else (spec_l19Threads.l0 k l0 0)
theorem spec_l19Threads.mono_l:∀ k,(∀ y0 y1,LeO (spec_l19Threads.l0 k y0 y1) (spec_l19Threads.l0 (k + 1) y0 y1))∧(∀ y0 y1 y2,LeO (spec_l19Threads.l1 k y0 y1 y2) (spec_l19Threads.l1 (k + 1) y0 y1 y2))
 | 0=>⟨fun _ _ r h=>by simp [spec_l19Threads.l0] at h,fun _ _ _ r h=>by simp [spec_l19Threads.l1] at h⟩
 | k + 1=>by
  obtain ⟨ih0,ih1⟩:=spec_l19Threads.mono_l k
  refine ⟨?_,?_⟩
  ·intro y0 y1
   unfold spec_l19Threads.l0
   repeat' first
   | (with_reducible exact ih0 _ _)
   | (with_reducible exact ih1 _ _ _)
   | (with_reducible exact LeO.refl _)
   | (with_reducible exact LeO.none _)
   | (with_reducible refine LeO.ite ?_ ?_)
   | (with_reducible refine LeO.bind ?_ (fun _=>?_))
   | exact ih0 _ _
   | exact ih1 _ _ _
   | exact LeO.none _
   | refine LeO.ite ?_ ?_
   | refine LeO.bind ?_ (fun _=>?_)
  ·intro y0 y1 y2
   unfold spec_l19Threads.l1
   repeat' first
   | (with_reducible exact ih0 _ _)
   | (with_reducible exact ih1 _ _ _)
   | (with_reducible exact LeO.refl _)
   | (with_reducible exact LeO.none _)
   | (with_reducible refine LeO.ite ?_ ?_)
   | (with_reducible refine LeO.bind ?_ (fun _=>?_))
   | exact ih0 _ _
   | exact ih1 _ _ _
   | exact LeO.none _
   | refine LeO.ite ?_ ?_
   | refine LeO.bind ?_ (fun _=>?_)
theorem spec_l19Threads.mono:∀ a0 k,LeO (spec_l19Threads.f k a0) (spec_l19Threads.f (k + 1) a0):=by
 intro a0 k
 obtain ⟨ih0,ih1⟩:=spec_l19Threads.mono_l k
 unfold spec_l19Threads.f
 repeat' first
   | (with_reducible exact ih0 _ _)
   | (with_reducible exact ih1 _ _ _)
   | (with_reducible exact LeO.refl _)
   | (with_reducible exact LeO.none _)
   | (with_reducible refine LeO.ite ?_ ?_)
   | (with_reducible refine LeO.bind ?_ (fun _=>?_))
   | exact ih0 _ _
   | exact ih1 _ _ _
   | exact LeO.none _
   | refine LeO.ite ?_ ?_
   | refine LeO.bind ?_ (fun _=>?_)
set_option maxHeartbeats 8000000 in
set_option maxRecDepth 100000 in
theorem spec_l19Threads.calls (k:Nat) (A0:Option Addr) (c0:Nat) (l0:List (List Int)) (r:Bool) (w:World) (hr0:Kd.C (Kd.slice 3 (Kd.int .i64)) w A0 l0.length l0) (hc0:l0.length ≤ c0) (h:spec_l19Threads.f k l0 = some r) :
  Calls Try.prog 58 #[.slice A0 l0.length c0] w fun e w'=>e = .returned (.bool r)∧Drawn0 w w':=by
 have HR0:=Aside0.mk hr0
 have HC0:=Aside0.mk hc0
 clear hr0 hc0
 have H:(if (l0.length:Int) > 4 then (some false) else (spec_l19Threads.l0 k l0 0)) = some r:=h
 clear h
 by_cases c2:(l0.length:Int) > 4
 ·rw [if_pos c2] at H
  have c2b0:decide (4 < (l0.length:Int)) = true:=decide_eq_true c2
  have c2b1:decide (4 < l0.length) = true:=decide_eq_true (by omega)
  clear c2
  obtain rfl:=Option.some.inj H
  go_enter Try.func58,Try.ntmps58
  go_wp2
  go_ret
  exact ⟨by first | rfl | (simp;done) | (simp [*];done),by repeat (first | exact Drawn0.refl _ | apply Drawn0.step)⟩
 ·rw [if_neg c2] at H
  have c2b0:decide (4 < (l0.length:Int)) = false:=decide_eq_false c2
  have c2b1:decide (4 < l0.length) = false:=decide_eq_false (by omega)
  clear c2
  have H':=Aside0.mk H
  clear H
  go_enter Try.func58,Try.ntmps58
  go_wp2
  go_loopg [3] k (fun kq v3 w'=>∃ (x3_1:Int),v3 = .int .i64 x3_1∧Aside0 (spec_l19Threads.l0 kq l0 x3_1 = some r)∧Aside0 (kq ≤ k)∧Drawn0 w w')
  case atStart=>exact ⟨(0),(by first | rfl | (simp;done) | (simp [*];done)),H',⟨Nat.le_refl _⟩,by repeat (first | exact Drawn0.refl _ | apply Drawn0.step)⟩
  case round =>
   clear H'
   try clear c2
   try clear c2b0
   try clear c2b1
   try clear p2
   obtain ⟨x3_1,rfl,HA,HK1,⟨m1,rfl⟩⟩:=hrel
   cases gk with
   | zero=>exact absurd HA.out (by simp [spec_l19Threads.l0])
   | succ k1 =>
    have H:=HA.out
    clear HA
    simp only [spec_l19Threads.l0] at H
    by_cases c3:x3_1 < (l0.length:Int)
    ·rw [if_pos c3] at H
     have c3b0:decide (x3_1 < (l0.length:Int)) = true:=decide_eq_true c3
     clear c3
     by_cases c4:0 ≤ x3_1
     ·rw [if_pos c4] at H
      have c4b0:decide (0 ≤ x3_1) = true:=decide_eq_true c4
      clear c4
      by_cases c5:((rd_L2 l0 x3_1).length:Int) > 8
      ·rw [if_pos c5] at H
       have c5b0:decide (8 < ((rd_L2 l0 x3_1).length:Int)) = true:=decide_eq_true c5
       have c5b1:decide (8 < (rd_L2 l0 x3_1).length) = true:=decide_eq_true (by omega)
       clear c5
       obtain rfl:=Option.some.inj H
       have p139:0 ≤ (x3_1:Int):=of_decide_eq_true (by first | (with_reducible assumption) | assumption)
       have q139:x3_1 < (l0.length:Int):=of_decide_eq_true (by first | (with_reducible assumption) | assumption)
       obtain ⟨ad139,A139_0,c139_0,e139,hx139_0,hl139_0,hi139_0⟩:=at_L2 HR0.out x3_1 p139 q139
       cases e139
       have HR139_0:=Aside0.mk hi139_0
       have HC139_0:=Aside0.mk hl139_0
       clear hi139_0 hl139_0
       replace p139:=eq_true p139
       replace q139:=eq_true q139
       go_wp2
       go_ret
       exact ⟨by first | rfl | (simp;done) | (simp [*];done),by repeat (first | exact Drawn0.refl _ | apply Drawn0.step)⟩
      ·rw [if_neg c5] at H
       have c5b0:decide (8 < ((rd_L2 l0 x3_1).length:Int)) = false:=decide_eq_false c5
       have c5b1:decide (8 < (rd_L2 l0 x3_1).length) = false:=decide_eq_false (by omega)
       clear c5
       have H':=Aside0.mk H
       clear H
       have p139:0 ≤ (x3_1:Int):=of_decide_eq_true (by first | (with_reducible assumption) | assumption)
       have q139:x3_1 < (l0.length:Int):=of_decide_eq_true (by first | (with_reducible assumption) | assumption)
       obtain ⟨ad139,A139_0,c139_0,e139,hx139_0,hl139_0,hi139_0⟩:=at_L2 HR0.out x3_1 p139 q139
       cases e139
       have HR139_0:=Aside0.mk hi139_0
       have HC139_0:=Aside0.mk hl139_0
       clear hi139_0 hl139_0
       replace p139:=eq_true p139
       replace q139:=eq_true q139
       go_wp2
       go_loopg [4] k1 (fun kq v4 w'=>∃ (x4_2:Int),v4 = .int .i64 x4_2∧Aside0 (spec_l19Threads.l1 kq l0 x3_1 x4_2 = some r)∧Aside0 (kq ≤ k1)∧Drawn0 w w')
       case atStart=>exact ⟨(0),(by first | rfl | (simp;done) | (simp [*];done)),H',⟨Nat.le_refl _⟩,by repeat (first | exact Drawn0.refl _ | apply Drawn0.step)⟩
       case round =>
        clear H'
        try clear c1
        try clear p1
        try clear q1
        try clear hx1
        try clear c2
        try clear c2b0
        try clear c2b1
        try clear p2
        try clear c3
        try clear c3b0
        try clear c4
        try clear c4b0
        try clear c5
        try clear c5b0
        try clear c5b1
        try clear hx139_0
        try clear p139
        try clear p2
        try clear q139
        obtain ⟨x4_2,rfl,HA,HK2,⟨m2,rfl⟩⟩:=hrel
        cases gk with
        | zero=>exact absurd HA.out (by simp [spec_l19Threads.l1])
        | succ k2 =>
         have H:=HA.out
         clear HA
         simp only [spec_l19Threads.l1] at H
         by_cases c6:0 ≤ x3_1
         ·rw [if_pos c6] at H
          have c6b0:decide (0 ≤ x3_1) = true:=decide_eq_true c6
          clear c6
          by_cases c7:x3_1 < (l0.length:Int)
          ·rw [if_pos c7] at H
           have c7b0:decide (x3_1 < (l0.length:Int)) = true:=decide_eq_true c7
           clear c7
           by_cases c8:x4_2 < ((rd_L2 l0 x3_1).length:Int)
           ·rw [if_pos c8] at H
            have c8b0:decide (x4_2 < ((rd_L2 l0 x3_1).length:Int)) = true:=decide_eq_true c8
            clear c8
            by_cases c9:0 ≤ x4_2
            ·rw [if_pos c9] at H
             have c9b0:decide (0 ≤ x4_2) = true:=decide_eq_true c9
             clear c9
             replace H:=Option.bind_eq_some_iff.mp H
             obtain ⟨t143,A100,H⟩:=H
             replace H:(if t143 = true then (spec_l19Threads.l1 k2 l0 x3_1 (wrap64 (x4_2 + 1))) else (some false)) = some r:=H
             have A10:=Aside0.mk A100
             clear A100
             by_cases c11:t143 = true
             ·subst c11
              have H1:(spec_l19Threads.l1 k2 l0 x3_1 (wrap64 (x4_2 + 1))) = some r:=by rw [if_pos rfl] at H;exact H
              clear H
              have H:=H1
              clear H1
              have H':=Aside0.mk H
              clear H
              have p140:0 ≤ (x3_1:Int):=of_decide_eq_true (by first | (with_reducible assumption) | assumption)
              have q140:x3_1 < (l0.length:Int):=of_decide_eq_true (by first | (with_reducible assumption) | assumption)
              obtain ⟨ad140,A140_0,c140_0,e140,hx140_0,hl140_0,hi140_0⟩:=at_L2 HR0.out x3_1 p140 q140
              obtain rfl:ad139 = ad140:=(by injection e140)
              have HR140_0:=Aside0.mk hi140_0
              have HC140_0:=Aside0.mk hl140_0
              clear hi140_0 hl140_0
              replace p140:=eq_true p140
              replace q140:=eq_true q140
              have p141:0 ≤ (x3_1:Int):=of_decide_eq_true (by first | (with_reducible assumption) | assumption)
              have q141:x3_1 < (l0.length:Int):=of_decide_eq_true (by first | (with_reducible assumption) | assumption)
              obtain ⟨ad141,A141_0,c141_0,e141,hx141_0,hl141_0,hi141_0⟩:=at_L2 HR0.out x3_1 p141 q141
              obtain rfl:ad139 = ad141:=(by injection e141)
              have HR141_0:=Aside0.mk hi141_0
              have HC141_0:=Aside0.mk hl141_0
              clear hi141_0 hl141_0
              replace p141:=eq_true p141
              replace q141:=eq_true q141
              have ea_:=Option.some.inj (hx140_0.symm.trans hx141_0)
              injection ea_ with ea_ en_ ec_
              subst ea_
              subst ec_
              clear en_
              have p142:0 ≤ (x4_2:Int):=of_decide_eq_true (by first | (with_reducible assumption) | assumption)
              have q142:x4_2 < ((rd_L2 l0 x3_1).length:Int):=of_decide_eq_true (by first | (with_reducible assumption) | assumption)
              obtain ⟨ad142,e142,hx142_0⟩:=Kd.at_int HR141_0.out x4_2 p142 q142
              cases e142
              replace p142:=eq_true p142
              replace q142:=eq_true q142
              go_wp2_with (first | ((with_reducible refine gate_callee (f:=92) rfl ?_);refine goesL_ (some 36) rfl rfl Try.func92 (by kernel_rfl) rfl #[.int .i64 (rd (rd_L2 l0 x3_1) x4_2)] rfl (by (try simp only [List.map_toArray,List.map_cons,List.map_nil]);first | done | rfl | (simp only [List.length_drop,List.length_take];rfl)) ?_;(with_reducible refine (spec_ActOk.calls (rd (rd_L2 l0 x3_1) x4_2) true _ A10.out).mono ?_);rintro e w' ⟨rfl,⟨nd,rfl⟩⟩;refine ⟨_,rfl,?_⟩))
              go_roundg k2
              case measure=>have:=HK1.out;have:=HK2.out;omega
              case rel=>exact ⟨(wrap64 (x4_2 + 1)),(by first | rfl | (simp;done) | (simp [*];done)),H',⟨by have:=HK1.out;have:=HK2.out;omega⟩,by repeat (first | exact Drawn0.refl _ | apply Drawn0.step)⟩
             ·replace c11:=Bool.eq_false_iff.mpr c11
              subst c11
              have H1:(some false) = some r:=by rw [if_neg (show ¬ (false = true) by decide)] at H;exact H
              clear H
              have H:=H1
              clear H1
              obtain rfl:=Option.some.inj H
              have p140:0 ≤ (x3_1:Int):=of_decide_eq_true (by first | (with_reducible assumption) | assumption)
              have q140:x3_1 < (l0.length:Int):=of_decide_eq_true (by first | (with_reducible assumption) | assumption)
              obtain ⟨ad140,A140_0,c140_0,e140,hx140_0,hl140_0,hi140_0⟩:=at_L2 HR0.out x3_1 p140 q140
              obtain rfl:ad139 = ad140:=(by injection e140)
              have HR140_0:=Aside0.mk hi140_0
              have HC140_0:=Aside0.mk hl140_0
              clear hi140_0 hl140_0
              replace p140:=eq_true p140
              replace q140:=eq_true q140
              have p141:0 ≤ (x3_1:Int):=of_decide_eq_true (by first | (with_reducible assumption) | assumption)
              have q141:x3_1 < (l0.length:Int):=of_decide_eq_true (by first | (with_reducible assumption) | assumption)
              obtain ⟨ad141,A141_0,c141_0,e141,hx141_0,hl141_0,hi141_0⟩:=at_L2 HR0.out x3_1 p141 q141
              obtain rfl:ad139 = ad141:=(by injection e141)
              have HR141_0:=Aside0.mk hi141_0
              have HC141_0:=Aside0.mk hl141_0
              clear hi141_0 hl141_0
              replace p141:=eq_true p141
              replace q141:=eq_true q141
              have ea_:=Option.some.inj (hx140_0.symm.trans hx141_0)
              injection ea_ with ea_ en_ ec_
              subst ea_
              subst ec_
              clear en_
              have p142:0 ≤ (x4_2:Int):=of_decide_eq_true (by first | (with_reducible assumption) | assumption)
              have q142:x4_2 < ((rd_L2 l0 x3_1).length:Int):=of_decide_eq_true (by first | (with_reducible assumption) | assumption)
              obtain ⟨ad142,e142,hx142_0⟩:=Kd.at_int HR141_0.out x4_2 p142 q142
              cases e142
              replace p142:=eq_true p142
              replace q142:=eq_true q142
              go_wp2_with (first | ((with_reducible refine gate_callee (f:=92) rfl ?_);refine goesL_ (some 36) rfl rfl Try.func92 (by kernel_rfl) rfl #[.int .i64 (rd (rd_L2 l0 x3_1) x4_2)] rfl (by (try simp only [List.map_toArray,List.map_cons,List.map_nil]);first | done | rfl | (simp only [List.length_drop,List.length_take];rfl)) ?_;(with_reducible refine (spec_ActOk.calls (rd (rd_L2 l0 x3_1) x4_2) false _ A10.out).mono ?_);rintro e w' ⟨rfl,⟨nd,rfl⟩⟩;refine ⟨_,rfl,?_⟩))
              go_ret
              exact ⟨by first | rfl | (simp;done) | (simp [*];done),by repeat (first | exact Drawn0.refl _ | apply Drawn0.step)⟩
            ·rw [if_neg c9] at H
             exact absurd H (by simp)
           ·rw [if_neg c8] at H
            have c8b0:decide (x4_2 < ((rd_L2 l0 x3_1).length:Int)) = false:=decide_eq_false c8
            clear c8
            have H':=Aside0.mk H
            clear H
            have p140:0 ≤ (x3_1:Int):=of_decide_eq_true (by first | (with_reducible assumption) | assumption)
            have q140:x3_1 < (l0.length:Int):=of_decide_eq_true (by first | (with_reducible assumption) | assumption)
            obtain ⟨ad140,A140_0,c140_0,e140,hx140_0,hl140_0,hi140_0⟩:=at_L2 HR0.out x3_1 p140 q140
            obtain rfl:ad139 = ad140:=(by injection e140)
            have HR140_0:=Aside0.mk hi140_0
            have HC140_0:=Aside0.mk hl140_0
            clear hi140_0 hl140_0
            replace p140:=eq_true p140
            replace q140:=eq_true q140
            go_wp2
            go_roundg k2
            case measure=>have:=HK1.out;have:=HK2.out;omega
            case rel=>exact ⟨(wrap64 (x3_1 + 1)),(by first | rfl | (simp;done) | (simp [*];done)),H',⟨by have:=HK1.out;have:=HK2.out;omega⟩,by repeat (first | exact Drawn0.refl _ | apply Drawn0.step)⟩
          ·rw [if_neg c7] at H
           exact absurd H (by simp)
         ·rw [if_neg c6] at H
          exact absurd H (by simp)
     ·rw [if_neg c4] at H
      exact absurd H (by simp)
    ·rw [if_neg c3] at H
     have c3b0:decide (x3_1 < (l0.length:Int)) = false:=decide_eq_false c3
     clear c3
     obtain rfl:=Option.some.inj H
     go_wp2
     go_ret
     exact ⟨by first | rfl | (simp;done) | (simp [*];done),by repeat (first | exact Drawn0.refl _ | apply Drawn0.step)⟩
def spec_l19Can.j0:Nat → List (List Int) → List Int → Bool → Int → Int → Option (Bool)
 | 0,_,_,_,_,_=>none
 | k + 1,x0,x1,x28,x145000,x145001=>if x28 = true then (some false) else (if x145001 = (-1) then (some true) else ((spec_l6In.f x145001 (wrap64 (x145000 + 1)) (wrap64 ((x0.length:Int) - 1))).bind fun t148=>(if t148 = true then (if 0 ≤ x145001 then (if x145001 < (x1.length:Int) then (if x145001 < (x0.length:Int) then (if (rd x1 x145001) ≥ ((rd_L2 x0 x145001).length:Int) then (some false) else (if 0 ≤ x145000 then (if x145000 < (x0.length:Int) then (if x145000 < (x1.length:Int) then (if 0 ≤ (rd x1 x145000) then (if (rd x1 x145000) < ((rd_L2 x0 x145000).length:Int) then (if (rd (rd_L2 x0 x145000) (rd x1 x145000)) = 0 then (some false) else (if 0 ≤ (rd x1 x145001) then (if (rd x1 x145001) < ((rd_L2 x0 x145001).length:Int) then (some ((rd (rd_L2 x0 x145000) (rd x1 x145000)) == (wrap64 (-(rd (rd_L2 x0 x145001) (rd x1 x145001)))))) else (none)) else (none))) else (none)) else (none)) else (none)) else (none)) else (none))) else (none)) else (none)) else (none)) else (some false))))
def spec_l19Can.f (k:Nat) (l0:List (List Int)) (l1:List Int) (a2_0:Int) (a2_1:Int):Option (Bool):=(spec_l6In.f a2_0 0 (wrap64 ((l0.length:Int) - 1))).bind fun t145=>(if t145 = true then (if 0 ≤ a2_0 then (if a2_0 < (l1.length:Int) then (if a2_0 < (l0.length:Int) then (spec_l19Can.j0 k l0 l1 (decide ((rd l1 a2_0) ≥ ((rd_L2 l0 a2_0).length:Int))) a2_0 a2_1) else (none)) else (none)) else (none)) else (spec_l19Can.j0 k l0 l1 true a2_0 a2_1))
theorem spec_l19Can.mono_l:∀ k,(∀ y0 y1 y2 y3 y4,LeO (spec_l19Can.j0 k y0 y1 y2 y3 y4) (spec_l19Can.j0 (k + 1) y0 y1 y2 y3 y4))
 | 0=>fun _ _ _ _ _ r h=>by simp [spec_l19Can.j0] at h
 | k + 1=>by
  have ih0:=spec_l19Can.mono_l k
  ·intro y0 y1 y2 y3 y4
   unfold spec_l19Can.j0
   repeat' first
   | (with_reducible exact ih0 _ _ _ _ _)
   | (with_reducible exact LeO.refl _)
   | (with_reducible exact LeO.none _)
   | (with_reducible refine LeO.ite ?_ ?_)
   | (with_reducible refine LeO.bind ?_ (fun _=>?_))
   | exact ih0 _ _ _ _ _
   | exact LeO.none _
   | refine LeO.ite ?_ ?_
   | refine LeO.bind ?_ (fun _=>?_)
theorem spec_l19Can.mono:∀ a0 a1 a2 a3 k,LeO (spec_l19Can.f k a0 a1 a2 a3) (spec_l19Can.f (k + 1) a0 a1 a2 a3):=by
 intro a0 a1 a2 a3 k
 have ih0:=spec_l19Can.mono_l k
 unfold spec_l19Can.f
 repeat' first
   | (with_reducible exact ih0 _ _ _ _ _)
   | (with_reducible exact LeO.refl _)
   | (with_reducible exact LeO.none _)
   | (with_reducible refine LeO.ite ?_ ?_)
   | (with_reducible refine LeO.bind ?_ (fun _=>?_))
   | exact ih0 _ _ _ _ _
   | exact LeO.none _
   | refine LeO.ite ?_ ?_
   | refine LeO.bind ?_ (fun _=>?_)
set_option maxHeartbeats 8000000 in
set_option maxRecDepth 100000 in
theorem spec_l19Can.calls (k:Nat) (A0:Option Addr) (c0:Nat) (l0:List (List Int)) (A1:Option Addr) (c1:Nat) (l1:List Int) (a2_0:Int) (a2_1:Int) (r:Bool) (w:World) (hr0:Kd.C (Kd.slice 3 (Kd.int .i64)) w A0 l0.length l0) (hc0:l0.length ≤ c0) (hr1:Kd.C (Kd.int .i64) w A1 l1.length l1) (hc1:l1.length ≤ c1) (h:spec_l19Can.f k l0 l1 a2_0 a2_1 = some r) :
  Calls Try.prog 64 #[.slice A0 l0.length c0,.slice A1 l1.length c1,.agg #[.int .i64 a2_0,.int .i64 a2_1]] w fun e w'=>e = .returned (.bool r)∧Below w.heap.size w w':=by
 have hu32:=Try.underlying32
 have HR0:=Aside0.mk hr0
 have HC0:=Aside0.mk hc0
 clear hr0 hc0
 have HR1:=Aside0.mk hr1
 have HC1:=Aside0.mk hc1
 clear hr1 hc1
 have HB:=Aside0.mk (Below.refl w.heap.size w)
 have H:((spec_l6In.f a2_0 0 (wrap64 ((l0.length:Int) - 1))).bind fun t145=>(if t145 = true then (if 0 ≤ a2_0 then (if a2_0 < (l1.length:Int) then (if a2_0 < (l0.length:Int) then (spec_l19Can.j0 k l0 l1 (decide ((rd l1 a2_0) ≥ ((rd_L2 l0 a2_0).length:Int))) a2_0 a2_1) else (none)) else (none)) else (none)) else (spec_l19Can.j0 k l0 l1 true a2_0 a2_1))) = some r:=h
 clear h
 have HC4:=Aside0.mk H
 clear H
 go_enter Try.func64,Try.ntmps64
 go_upto_region 1 with (first | ((with_reducible refine gate_dst (N:=5) rfl ?_);(try (refine gate_guard (by rfl) ?_;dsimp only));refine box_event ?hg (N:=5) ?hd (cs:=#[.int .i64 a2_0,.int .i64 a2_1]) (t:=32) ?hr ?_;(case hd=>rfl);(case hg=>rfl);(case hr=>first | (go_simp;done) | (go_simp;rfl));intro gb144 hg w5 hbox hb;have n0_:=Aside0.mk (below_step (by repeat (first | (with_reducible first | exact HB.out | apply below_alloc | apply pw_below_drewN | apply below_drew1) | exact HB.out)) hb);have n1_:=Aside0.mk (hbox);have n2_:=Aside0.mk ((by rw [hg];exact (below_size (by repeat (first | (with_reducible first | exact HB.out | apply below_alloc | apply pw_below_drewN | apply below_drew1) | exact HB.out))):w.heap.size ≤ gb144));have n3_:=Aside0.mk ((by rw [hg];exact (below_size (by repeat (first | (with_reducible first | exact HB.out | apply below_alloc | apply pw_below_drewN | apply below_drew1) | exact HB.out))):w.heap.size ≤ gb144));clear HB;have HB:=n0_;have BK144:=n1_;have GW144:=n2_;have GE144:=n3_;clear n0_ n1_ n2_ n3_;clear hb hbox hg))
 repeat (go_quiet (first | ((with_reducible refine gate_dst (N:=5) rfl ?_);(try (refine gate_guard (by rfl) ?_;dsimp only));refine box_event ?hg (N:=5) ?hd (cs:=#[.int .i64 a2_0,.int .i64 a2_1]) (t:=32) ?hr ?_;(case hd=>rfl);(case hg=>rfl);(case hr=>first | (go_simp;done) | (go_simp;rfl));intro gb144 hg w5 hbox hb;have n0_:=Aside0.mk (below_step (by repeat (first | (with_reducible first | exact HB.out | apply below_alloc | apply pw_below_drewN | apply below_drew1) | exact HB.out)) hb);have n1_:=Aside0.mk (hbox);have n2_:=Aside0.mk ((by rw [hg];exact (below_size (by repeat (first | (with_reducible first | exact HB.out | apply below_alloc | apply pw_below_drewN | apply below_drew1) | exact HB.out))):w.heap.size ≤ gb144));have n3_:=Aside0.mk ((by rw [hg];exact (below_size (by repeat (first | (with_reducible first | exact HB.out | apply below_alloc | apply pw_below_drewN | apply below_drew1) | exact HB.out))):w.heap.size ≤ gb144));clear HB;have HB:=n0_;have BK144:=n1_;have GW144:=n2_;have GE144:=n3_;clear n0_ n1_ n2_ n3_;clear hb hbox hg));go_upto_region 1 with (first | ((with_reducible refine gate_dst (N:=5) rfl ?_);(try (refine gate_guard (by rfl) ?_;dsimp only));refine box_event ?hg (N:=5) ?hd (cs:=#[.int .i64 a2_0,.int .i64 a2_1]) (t:=32) ?hr ?_;(case hd=>rfl);(case hg=>rfl);(case hr=>first | (go_simp;done) | (go_simp;rfl));intro gb144 hg w5 hbox hb;have n0_:=Aside0.mk (below_step (by repeat (first | (with_reducible first | exact HB.out | apply below_alloc | apply pw_below_drewN | apply below_drew1) | exact HB.out)) hb);have n1_:=Aside0.mk (hbox);have n2_:=Aside0.mk ((by rw [hg];exact (below_size (by repeat (first | (with_reducible first | exact HB.out | apply below_alloc | apply pw_below_drewN | apply below_drew1) | exact HB.out))):w.heap.size ≤ gb144));have n3_:=Aside0.mk ((by rw [hg];exact (below_size (by repeat (first | (with_reducible first | exact HB.out | apply below_alloc | apply pw_below_drewN | apply below_drew1) | exact HB.out))):w.heap.size ≤ gb144));clear HB;have HB:=n0_;have BK144:=n1_;have GW144:=n2_;have GE144:=n3_;clear n0_ n1_ n2_ n3_;clear hb hbox hg)))
 (try simp only [Act.put,List.setIfInBounds_toArray,List.set_cons_zero,List.set_cons_succ])
 go_cut [28] (fun v28 wc=>∃ (kq:Nat) (x28_3:Bool),v28 = .bool x28_3∧Aside0 (spec_l19Can.j0 kq l0 l1 x28_3 a2_0 a2_1 = some r)∧Aside0 (kq ≤ k)∧Aside0 (wc.heap[gb144]? = some (.cells #[.int .i64 a2_0,.int .i64 a2_1] 32 (0,0)))∧Aside0 (Below w.heap.size w wc))
 case first =>
  have H:=HC4.out
  clear HC4
  replace H:=Option.bind_eq_some_iff.mp H
  obtain ⟨t145,A60,H⟩:=H
  replace H:(if t145 = true then (if 0 ≤ a2_0 then (if a2_0 < (l1.length:Int) then (if a2_0 < (l0.length:Int) then (spec_l19Can.j0 k l0 l1 (decide ((rd l1 a2_0) ≥ ((rd_L2 l0 a2_0).length:Int))) a2_0 a2_1) else (none)) else (none)) else (none)) else (spec_l19Can.j0 k l0 l1 true a2_0 a2_1)) = some r:=H
  have A6:=Aside0.mk A60
  clear A60
  by_cases c7:t145 = true
  ·subst c7
   have H1:(if 0 ≤ a2_0 then (if a2_0 < (l1.length:Int) then (if a2_0 < (l0.length:Int) then (spec_l19Can.j0 k l0 l1 (decide ((rd l1 a2_0) ≥ ((rd_L2 l0 a2_0).length:Int))) a2_0 a2_1) else (none)) else (none)) else (none)) = some r:=by rw [if_pos rfl] at H;exact H
   clear H
   have H:=H1
   clear H1
   by_cases c8:0 ≤ a2_0
   ·rw [if_pos c8] at H
    have c8b0:decide (0 ≤ a2_0) = true:=decide_eq_true c8
    clear c8
    (first | rw [c8b0] | (simp only [i64_w,i32_w];rw [c8b0]) | skip)
    by_cases c9:a2_0 < (l1.length:Int)
    ·rw [if_pos c9] at H
     have c9b0:decide (a2_0 < (l1.length:Int)) = true:=decide_eq_true c9
     clear c9
     by_cases c10:a2_0 < (l0.length:Int)
     ·rw [if_pos c10] at H
      have c10b0:decide (a2_0 < (l0.length:Int)) = true:=decide_eq_true c10
      clear c10
      have H':=Aside0.mk H
      clear H
      have hcz11_0:w5.cell? ⟨gb144,0,none⟩ = some (.int .i64 a2_0):=(blk_cell BK144.out 0).trans rfl
      have hcz11_1:w5.cell? ⟨gb144,1,none⟩ = some (.int .i64 a2_1):=(blk_cell BK144.out 1).trans rfl
      have hfz11_0:=blk_frozen BK144.out 0
      have hfz11_1:=blk_frozen BK144.out 1
      go_wp2_with (first | (go_at_call 71;(try simp only [i64_w,i32_w]);(with_reducible refine (spec_l6In.calls a2_0 0 (wrap64 ((l0.length:Int) - 1)) true _ A6.out).mono ?_);rintro e w' ⟨rfl,⟨nd,rfl⟩⟩;(try first | exact ⟨rfl,_,World.drewN_drewN _ _ _⟩ | exact ⟨rfl,_,Eq.trans (World.drewN_drewN _ _ _) (congrArg (World.drewN _) (Nat.add_assoc _ _ _))⟩);have p146:0 ≤ (a2_0:Int):=of_decide_eq_true (by first | (with_reducible assumption) | assumption);have q146:a2_0 < (l1.length:Int):=of_decide_eq_true (by first | (with_reducible assumption) | assumption);obtain ⟨ad146,e146,hx146_0⟩:=Kd.at_int HR1.out a2_0 p146 q146;cases e146;replace hx146_0:=(HB.out.cell (World.block_lt_of_cell? w _ hx146_0)).trans hx146_0;replace p146:=eq_true p146;replace q146:=eq_true q146;have p147:0 ≤ (a2_0:Int):=of_decide_eq_true (by first | (with_reducible assumption) | assumption);have q147:a2_0 < (l0.length:Int):=of_decide_eq_true (by first | (with_reducible assumption) | assumption);obtain ⟨ad147,A147_0,c147_0,e147,hx147_0,hl147_0,hi147_0⟩:=at_L2 HR0.out a2_0 p147 q147;cases e147;replace hx147_0:=(HB.out.cell (World.block_lt_of_cell? w _ hx147_0)).trans hx147_0;have HR147_0:=Aside0.mk hi147_0;have HC147_0:=Aside0.mk hl147_0;clear hi147_0 hl147_0;replace p147:=eq_true p147;replace q147:=eq_true q147))
      repeat (go_quiet (first | (go_at_call 71;(try simp only [i64_w,i32_w]);(with_reducible refine (spec_l6In.calls a2_0 0 (wrap64 ((l0.length:Int) - 1)) true _ A6.out).mono ?_);rintro e w' ⟨rfl,⟨nd,rfl⟩⟩;(try first | exact ⟨rfl,_,World.drewN_drewN _ _ _⟩ | exact ⟨rfl,_,Eq.trans (World.drewN_drewN _ _ _) (congrArg (World.drewN _) (Nat.add_assoc _ _ _))⟩);have p146:0 ≤ (a2_0:Int):=of_decide_eq_true (by first | (with_reducible assumption) | assumption);have q146:a2_0 < (l1.length:Int):=of_decide_eq_true (by first | (with_reducible assumption) | assumption);obtain ⟨ad146,e146,hx146_0⟩:=Kd.at_int HR1.out a2_0 p146 q146;cases e146;replace hx146_0:=(HB.out.cell (World.block_lt_of_cell? w _ hx146_0)).trans hx146_0;replace p146:=eq_true p146;replace q146:=eq_true q146;have p147:0 ≤ (a2_0:Int):=of_decide_eq_true (by first | (with_reducible assumption) | assumption);have q147:a2_0 < (l0.length:Int):=of_decide_eq_true (by first | (with_reducible assumption) | assumption);obtain ⟨ad147,A147_0,c147_0,e147,hx147_0,hl147_0,hi147_0⟩:=at_L2 HR0.out a2_0 p147 q147;cases e147;replace hx147_0:=(HB.out.cell (World.block_lt_of_cell? w _ hx147_0)).trans hx147_0;have HR147_0:=Aside0.mk hi147_0;have HC147_0:=Aside0.mk hl147_0;clear hi147_0 hl147_0;replace p147:=eq_true p147;replace q147:=eq_true q147));try go_wp2_with (first | (go_at_call 71;(try simp only [i64_w,i32_w]);(with_reducible refine (spec_l6In.calls a2_0 0 (wrap64 ((l0.length:Int) - 1)) true _ A6.out).mono ?_);rintro e w' ⟨rfl,⟨nd,rfl⟩⟩;(try first | exact ⟨rfl,_,World.drewN_drewN _ _ _⟩ | exact ⟨rfl,_,Eq.trans (World.drewN_drewN _ _ _) (congrArg (World.drewN _) (Nat.add_assoc _ _ _))⟩);have p146:0 ≤ (a2_0:Int):=of_decide_eq_true (by first | (with_reducible assumption) | assumption);have q146:a2_0 < (l1.length:Int):=of_decide_eq_true (by first | (with_reducible assumption) | assumption);obtain ⟨ad146,e146,hx146_0⟩:=Kd.at_int HR1.out a2_0 p146 q146;cases e146;replace hx146_0:=(HB.out.cell (World.block_lt_of_cell? w _ hx146_0)).trans hx146_0;replace p146:=eq_true p146;replace q146:=eq_true q146;have p147:0 ≤ (a2_0:Int):=of_decide_eq_true (by first | (with_reducible assumption) | assumption);have q147:a2_0 < (l0.length:Int):=of_decide_eq_true (by first | (with_reducible assumption) | assumption);obtain ⟨ad147,A147_0,c147_0,e147,hx147_0,hl147_0,hi147_0⟩:=at_L2 HR0.out a2_0 p147 q147;cases e147;replace hx147_0:=(HB.out.cell (World.block_lt_of_cell? w _ hx147_0)).trans hx147_0;have HR147_0:=Aside0.mk hi147_0;have HC147_0:=Aside0.mk hl147_0;clear hi147_0 hl147_0;replace p147:=eq_true p147;replace q147:=eq_true q147)))
      go_meet
      case rel=>exact ⟨_,(decide ((rd l1 a2_0) ≥ ((rd_L2 l0 a2_0).length:Int))),(by first | rfl | (simp;done) | (simp [*];done)),H',⟨by first | omega | exact Nat.le_refl _⟩,⟨by (with_reducible repeat (first | refine blk_drewN ?_ _ | refine blk_drew ?_ | refine blk_alloc ?_ _));exact BK144.out⟩,⟨by repeat (first | (with_reducible first | exact HB.out | apply below_alloc | apply pw_below_drewN | apply below_drew1 | refine below_set ?_ GE144.out) | exact HB.out)⟩⟩
     ·rw [if_neg c10] at H
      exact absurd H (by simp)
    ·rw [if_neg c9] at H
     exact absurd H (by simp)
   ·rw [if_neg c8] at H
    exact absurd H (by simp)
  ·replace c7:=Bool.eq_false_iff.mpr c7
   subst c7
   have H1:(spec_l19Can.j0 k l0 l1 true a2_0 a2_1) = some r:=by rw [if_neg (show ¬ (false = true) by decide)] at H;exact H
   clear H
   have H:=H1
   clear H1
   have H':=Aside0.mk H
   clear H
   have hcz12_0:w5.cell? ⟨gb144,0,none⟩ = some (.int .i64 a2_0):=(blk_cell BK144.out 0).trans rfl
   have hcz12_1:w5.cell? ⟨gb144,1,none⟩ = some (.int .i64 a2_1):=(blk_cell BK144.out 1).trans rfl
   have hfz12_0:=blk_frozen BK144.out 0
   have hfz12_1:=blk_frozen BK144.out 1
   go_wp2_with (first | (go_at_call 71;(try simp only [i64_w,i32_w]);(with_reducible refine (spec_l6In.calls a2_0 0 (wrap64 ((l0.length:Int) - 1)) false _ A6.out).mono ?_);rintro e w' ⟨rfl,⟨nd,rfl⟩⟩;(try first | exact ⟨rfl,_,World.drewN_drewN _ _ _⟩ | exact ⟨rfl,_,Eq.trans (World.drewN_drewN _ _ _) (congrArg (World.drewN _) (Nat.add_assoc _ _ _))⟩)))
   repeat (go_quiet (first | (go_at_call 71;(try simp only [i64_w,i32_w]);(with_reducible refine (spec_l6In.calls a2_0 0 (wrap64 ((l0.length:Int) - 1)) false _ A6.out).mono ?_);rintro e w' ⟨rfl,⟨nd,rfl⟩⟩;(try first | exact ⟨rfl,_,World.drewN_drewN _ _ _⟩ | exact ⟨rfl,_,Eq.trans (World.drewN_drewN _ _ _) (congrArg (World.drewN _) (Nat.add_assoc _ _ _))⟩)));try go_wp2_with (first | (go_at_call 71;(try simp only [i64_w,i32_w]);(with_reducible refine (spec_l6In.calls a2_0 0 (wrap64 ((l0.length:Int) - 1)) false _ A6.out).mono ?_);rintro e w' ⟨rfl,⟨nd,rfl⟩⟩;(try first | exact ⟨rfl,_,World.drewN_drewN _ _ _⟩ | exact ⟨rfl,_,Eq.trans (World.drewN_drewN _ _ _) (congrArg (World.drewN _) (Nat.add_assoc _ _ _))⟩))))
   go_meet
   case rel=>exact ⟨_,(true),(by first | rfl | (simp;done) | (simp [*];done)),H',⟨by first | omega | exact Nat.le_refl _⟩,⟨by (with_reducible repeat (first | refine blk_drewN ?_ _ | refine blk_drew ?_ | refine blk_alloc ?_ _));exact BK144.out⟩,⟨by repeat (first | (with_reducible first | exact HB.out | apply below_alloc | apply pw_below_drewN | apply below_drew1 | refine below_set ?_ GE144.out) | exact HB.out)⟩⟩
 case rest =>
  clear HC4
  try clear c1
  try clear p1
  try clear q1
  try clear hx1
  try clear p2
  try clear c6
  try clear p6
  try clear c7
  try clear c8
  try clear c8b0
  try clear c9
  try clear c9b0
  try clear c10
  try clear c10b0
  try clear hcz11_0
  try clear hcz11_1
  try clear hcz12_0
  try clear hcz12_1
  try clear hfz11_0
  try clear hfz11_1
  try clear hfz12_0
  try clear hfz12_1
  try clear hx146_0
  try clear hx147_0
  try clear p146
  try clear p147
  try clear q146
  try clear q147
  obtain ⟨kq,x28_3,rfl,HA,HJ3,BK144,HB⟩:=hcut
  cases kq with
  | zero=>exact absurd HA.out (by simp [spec_l19Can.j0])
  | succ kj3 =>
   have H:=HA.out
   clear HA
   simp only [spec_l19Can.j0] at H
   by_cases c13:x28_3 = true
   ·subst c13
    have H1:(some false) = some r:=by rw [if_pos rfl] at H;exact H
    clear H
    have H:=H1
    clear H1
    obtain rfl:=Option.some.inj H
    go_wp2
    repeat (go_quiet (fail);try go_wp2)
    go_ret
    exact ⟨by first | rfl | (simp [errW_none,errW_some] <;> rfl) | (simp [*,errW_none,errW_some] <;> rfl),by repeat (first | (with_reducible first | exact HB.out | apply below_alloc | apply pw_below_drewN | apply below_drew1 | refine below_set ?_ GE144.out) | exact HB.out)⟩
   ·replace c13:=Bool.eq_false_iff.mpr c13
    subst c13
    have H1:(if a2_1 = (-1) then (some true) else ((spec_l6In.f a2_1 (wrap64 (a2_0 + 1)) (wrap64 ((l0.length:Int) - 1))).bind fun t148=>(if t148 = true then (if 0 ≤ a2_1 then (if a2_1 < (l1.length:Int) then (if a2_1 < (l0.length:Int) then (if (rd l1 a2_1) ≥ ((rd_L2 l0 a2_1).length:Int) then (some false) else (if 0 ≤ a2_0 then (if a2_0 < (l0.length:Int) then (if a2_0 < (l1.length:Int) then (if 0 ≤ (rd l1 a2_0) then (if (rd l1 a2_0) < ((rd_L2 l0 a2_0).length:Int) then (if (rd (rd_L2 l0 a2_0) (rd l1 a2_0)) = 0 then (some false) else (if 0 ≤ (rd l1 a2_1) then (if (rd l1 a2_1) < ((rd_L2 l0 a2_1).length:Int) then (some ((rd (rd_L2 l0 a2_0) (rd l1 a2_0)) == (wrap64 (-(rd (rd_L2 l0 a2_1) (rd l1 a2_1)))))) else (none)) else (none))) else (none)) else (none)) else (none)) else (none)) else (none))) else (none)) else (none)) else (none)) else (some false)))) = some r:=by rw [if_neg (show ¬ (false = true) by decide)] at H;exact H
    clear H
    have H:=H1
    clear H1
    by_cases c14:a2_1 = (-1)
    ·rw [if_pos c14] at H
     have c14b0:(a2_1 == (-1)) = true:=beq_iff_eq.mpr c14
     have c14b1:(a2_1 != (-1)) = false:=bne_eq_false_iff_eq.mpr c14
     clear c14
     obtain rfl:=Option.some.inj H
     have hcz15_0:wc.cell? ⟨gb144,0,none⟩ = some (.int .i64 a2_0):=(blk_cell BK144.out 0).trans rfl
     have hcz15_1:wc.cell? ⟨gb144,1,none⟩ = some (.int .i64 a2_1):=(blk_cell BK144.out 1).trans rfl
     have hfz15_0:=blk_frozen BK144.out 0
     have hfz15_1:=blk_frozen BK144.out 1
     go_wp2
     repeat (go_quiet (fail);try go_wp2)
     go_ret
     exact ⟨by first | rfl | (simp [errW_none,errW_some] <;> rfl) | (simp [*,errW_none,errW_some] <;> rfl),by repeat (first | (with_reducible first | exact HB.out | apply below_alloc | apply pw_below_drewN | apply below_drew1 | refine below_set ?_ GE144.out) | exact HB.out)⟩
    ·rw [if_neg c14] at H
     have c14b0:(a2_1 == (-1)) = false:=beq_eq_false_iff_ne.mpr c14
     have c14b1:(a2_1 != (-1)) = true:=bne_iff_ne.mpr c14
     replace H:=Option.bind_eq_some_iff.mp H
     obtain ⟨t148,A160,H⟩:=H
     replace H:(if t148 = true then (if 0 ≤ a2_1 then (if a2_1 < (l1.length:Int) then (if a2_1 < (l0.length:Int) then (if (rd l1 a2_1) ≥ ((rd_L2 l0 a2_1).length:Int) then (some false) else (if 0 ≤ a2_0 then (if a2_0 < (l0.length:Int) then (if a2_0 < (l1.length:Int) then (if 0 ≤ (rd l1 a2_0) then (if (rd l1 a2_0) < ((rd_L2 l0 a2_0).length:Int) then (if (rd (rd_L2 l0 a2_0) (rd l1 a2_0)) = 0 then (some false) else (if 0 ≤ (rd l1 a2_1) then (if (rd l1 a2_1) < ((rd_L2 l0 a2_1).length:Int) then (some ((rd (rd_L2 l0 a2_0) (rd l1 a2_0)) == (wrap64 (-(rd (rd_L2 l0 a2_1) (rd l1 a2_1)))))) else (none)) else (none))) else (none)) else (none)) else (none)) else (none)) else (none))) else (none)) else (none)) else (none)) else (some false)) = some r:=H
     have A16:=Aside0.mk A160
     clear A160
     by_cases c17:t148 = true
     ·subst c17
      have H1:(if 0 ≤ a2_1 then (if a2_1 < (l1.length:Int) then (if a2_1 < (l0.length:Int) then (if (rd l1 a2_1) ≥ ((rd_L2 l0 a2_1).length:Int) then (some false) else (if 0 ≤ a2_0 then (if a2_0 < (l0.length:Int) then (if a2_0 < (l1.length:Int) then (if 0 ≤ (rd l1 a2_0) then (if (rd l1 a2_0) < ((rd_L2 l0 a2_0).length:Int) then (if (rd (rd_L2 l0 a2_0) (rd l1 a2_0)) = 0 then (some false) else (if 0 ≤ (rd l1 a2_1) then (if (rd l1 a2_1) < ((rd_L2 l0 a2_1).length:Int) then (some ((rd (rd_L2 l0 a2_0) (rd l1 a2_0)) == (wrap64 (-(rd (rd_L2 l0 a2_1) (rd l1 a2_1)))))) else (none)) else (none))) else (none)) else (none)) else (none)) else (none)) else (none))) else (none)) else (none)) else (none)) = some r:=by rw [if_pos rfl] at H;exact H
      clear H
      have H:=H1
      clear H1
      by_cases c18:0 ≤ a2_1
      ·rw [if_pos c18] at H
       have c18b0:decide (0 ≤ a2_1) = true:=decide_eq_true c18
       clear c18
       by_cases c19:a2_1 < (l1.length:Int)
       ·rw [if_pos c19] at H
        have c19b0:decide (a2_1 < (l1.length:Int)) = true:=decide_eq_true c19
        clear c19
        by_cases c20:a2_1 < (l0.length:Int)
        ·rw [if_pos c20] at H
         have c20b0:decide (a2_1 < (l0.length:Int)) = true:=decide_eq_true c20
         clear c20
         by_cases c21:(rd l1 a2_1) ≥ ((rd_L2 l0 a2_1).length:Int)
         ·rw [if_pos c21] at H
          have c21b0:decide (((rd_L2 l0 a2_1).length:Int) ≤ (rd l1 a2_1)) = true:=decide_eq_true c21
          clear c21
          obtain rfl:=Option.some.inj H
          have hcz22_0:wc.cell? ⟨gb144,0,none⟩ = some (.int .i64 a2_0):=(blk_cell BK144.out 0).trans rfl
          have hcz22_1:wc.cell? ⟨gb144,1,none⟩ = some (.int .i64 a2_1):=(blk_cell BK144.out 1).trans rfl
          have hfz22_0:=blk_frozen BK144.out 0
          have hfz22_1:=blk_frozen BK144.out 1
          go_wp2_with (first | (go_at_call 71;(try simp only [i64_w,i32_w]);(with_reducible refine (spec_l6In.calls a2_1 (wrap64 (a2_0 + 1)) (wrap64 ((l0.length:Int) - 1)) true _ A16.out).mono ?_);rintro e w' ⟨rfl,⟨nd,rfl⟩⟩;(try first | exact ⟨rfl,_,World.drewN_drewN _ _ _⟩ | exact ⟨rfl,_,Eq.trans (World.drewN_drewN _ _ _) (congrArg (World.drewN _) (Nat.add_assoc _ _ _))⟩);have p149:0 ≤ (a2_1:Int):=of_decide_eq_true (by first | (with_reducible assumption) | assumption);have q149:a2_1 < (l1.length:Int):=of_decide_eq_true (by first | (with_reducible assumption) | assumption);obtain ⟨ad149,e149,hx149_0⟩:=Kd.at_int HR1.out a2_1 p149 q149;cases e149;replace hx149_0:=(HB.out.cell (World.block_lt_of_cell? w _ hx149_0)).trans hx149_0;replace p149:=eq_true p149;replace q149:=eq_true q149;have p150:0 ≤ (a2_1:Int):=of_decide_eq_true (by first | (with_reducible assumption) | assumption);have q150:a2_1 < (l0.length:Int):=of_decide_eq_true (by first | (with_reducible assumption) | assumption);obtain ⟨ad150,A150_0,c150_0,e150,hx150_0,hl150_0,hi150_0⟩:=at_L2 HR0.out a2_1 p150 q150;cases e150;replace hx150_0:=(HB.out.cell (World.block_lt_of_cell? w _ hx150_0)).trans hx150_0;have HR150_0:=Aside0.mk hi150_0;have HC150_0:=Aside0.mk hl150_0;clear hi150_0 hl150_0;replace p150:=eq_true p150;replace q150:=eq_true q150))
          repeat (go_quiet (first | (go_at_call 71;(try simp only [i64_w,i32_w]);(with_reducible refine (spec_l6In.calls a2_1 (wrap64 (a2_0 + 1)) (wrap64 ((l0.length:Int) - 1)) true _ A16.out).mono ?_);rintro e w' ⟨rfl,⟨nd,rfl⟩⟩;(try first | exact ⟨rfl,_,World.drewN_drewN _ _ _⟩ | exact ⟨rfl,_,Eq.trans (World.drewN_drewN _ _ _) (congrArg (World.drewN _) (Nat.add_assoc _ _ _))⟩);have p149:0 ≤ (a2_1:Int):=of_decide_eq_true (by first | (with_reducible assumption) | assumption);have q149:a2_1 < (l1.length:Int):=of_decide_eq_true (by first | (with_reducible assumption) | assumption);obtain ⟨ad149,e149,hx149_0⟩:=Kd.at_int HR1.out a2_1 p149 q149;cases e149;replace hx149_0:=(HB.out.cell (World.block_lt_of_cell? w _ hx149_0)).trans hx149_0;replace p149:=eq_true p149;replace q149:=eq_true q149;have p150:0 ≤ (a2_1:Int):=of_decide_eq_true (by first | (with_reducible assumption) | assumption);have q150:a2_1 < (l0.length:Int):=of_decide_eq_true (by first | (with_reducible assumption) | assumption);obtain ⟨ad150,A150_0,c150_0,e150,hx150_0,hl150_0,hi150_0⟩:=at_L2 HR0.out a2_1 p150 q150;cases e150;replace hx150_0:=(HB.out.cell (World.block_lt_of_cell? w _ hx150_0)).trans hx150_0;have HR150_0:=Aside0.mk hi150_0;have HC150_0:=Aside0.mk hl150_0;clear hi150_0 hl150_0;replace p150:=eq_true p150;replace q150:=eq_true q150));try go_wp2_with (first | (go_at_call 71;(try simp only [i64_w,i32_w]);(with_reducible refine (spec_l6In.calls a2_1 (wrap64 (a2_0 + 1)) (wrap64 ((l0.length:Int) - 1)) true _ A16.out).mono ?_);rintro e w' ⟨rfl,⟨nd,rfl⟩⟩;(try first | exact ⟨rfl,_,World.drewN_drewN _ _ _⟩ | exact ⟨rfl,_,Eq.trans (World.drewN_drewN _ _ _) (congrArg (World.drewN _) (Nat.add_assoc _ _ _))⟩);have p149:0 ≤ (a2_1:Int):=of_decide_eq_true (by first | (with_reducible assumption) | assumption);have q149:a2_1 < (l1.length:Int):=of_decide_eq_true (by first | (with_reducible assumption) | assumption);obtain ⟨ad149,e149,hx149_0⟩:=Kd.at_int HR1.out a2_1 p149 q149;cases e149;replace hx149_0:=(HB.out.cell (World.block_lt_of_cell? w _ hx149_0)).trans hx149_0;replace p149:=eq_true p149;replace q149:=eq_true q149;have p150:0 ≤ (a2_1:Int):=of_decide_eq_true (by first | (with_reducible assumption) | assumption);have q150:a2_1 < (l0.length:Int):=of_decide_eq_true (by first | (with_reducible assumption) | assumption);obtain ⟨ad150,A150_0,c150_0,e150,hx150_0,hl150_0,hi150_0⟩:=at_L2 HR0.out a2_1 p150 q150;cases e150;replace hx150_0:=(HB.out.cell (World.block_lt_of_cell? w _ hx150_0)).trans hx150_0;have HR150_0:=Aside0.mk hi150_0;have HC150_0:=Aside0.mk hl150_0;clear hi150_0 hl150_0;replace p150:=eq_true p150;replace q150:=eq_true q150)))
          go_ret
          exact ⟨by first | rfl | (simp [errW_none,errW_some] <;> rfl) | (simp [*,errW_none,errW_some] <;> rfl),by repeat (first | (with_reducible first | exact HB.out | apply below_alloc | apply pw_below_drewN | apply below_drew1 | refine below_set ?_ GE144.out) | exact HB.out)⟩
         ·rw [if_neg c21] at H
          have c21b0:decide (((rd_L2 l0 a2_1).length:Int) ≤ (rd l1 a2_1)) = false:=decide_eq_false c21
          clear c21
          by_cases c23:0 ≤ a2_0
          ·rw [if_pos c23] at H
           have c23b0:decide (0 ≤ a2_0) = true:=decide_eq_true c23
           clear c23
           by_cases c24:a2_0 < (l0.length:Int)
           ·rw [if_pos c24] at H
            have c24b0:decide (a2_0 < (l0.length:Int)) = true:=decide_eq_true c24
            clear c24
            by_cases c25:a2_0 < (l1.length:Int)
            ·rw [if_pos c25] at H
             have c25b0:decide (a2_0 < (l1.length:Int)) = true:=decide_eq_true c25
             clear c25
             by_cases c26:0 ≤ (rd l1 a2_0)
             ·rw [if_pos c26] at H
              have c26b0:decide (0 ≤ (rd l1 a2_0)) = true:=decide_eq_true c26
              clear c26
              by_cases c27:(rd l1 a2_0) < ((rd_L2 l0 a2_0).length:Int)
              ·rw [if_pos c27] at H
               have c27b0:decide ((rd l1 a2_0) < ((rd_L2 l0 a2_0).length:Int)) = true:=decide_eq_true c27
               clear c27
               by_cases c28:(rd (rd_L2 l0 a2_0) (rd l1 a2_0)) = 0
               ·rw [if_pos c28] at H
                have c28b0:((rd (rd_L2 l0 a2_0) (rd l1 a2_0)) == 0) = true:=beq_iff_eq.mpr c28
                have c28b1:((rd (rd_L2 l0 a2_0) (rd l1 a2_0)) != 0) = false:=bne_eq_false_iff_eq.mpr c28
                clear c28
                obtain rfl:=Option.some.inj H
                have hcz29_0:wc.cell? ⟨gb144,0,none⟩ = some (.int .i64 a2_0):=(blk_cell BK144.out 0).trans rfl
                have hcz29_1:wc.cell? ⟨gb144,1,none⟩ = some (.int .i64 a2_1):=(blk_cell BK144.out 1).trans rfl
                have hfz29_0:=blk_frozen BK144.out 0
                have hfz29_1:=blk_frozen BK144.out 1
                go_wp2_with (first | (go_at_call 71;(try simp only [i64_w,i32_w]);(with_reducible refine (spec_l6In.calls a2_1 (wrap64 (a2_0 + 1)) (wrap64 ((l0.length:Int) - 1)) true _ A16.out).mono ?_);rintro e w' ⟨rfl,⟨nd,rfl⟩⟩;(try first | exact ⟨rfl,_,World.drewN_drewN _ _ _⟩ | exact ⟨rfl,_,Eq.trans (World.drewN_drewN _ _ _) (congrArg (World.drewN _) (Nat.add_assoc _ _ _))⟩);have p149:0 ≤ (a2_1:Int):=of_decide_eq_true (by first | (with_reducible assumption) | assumption);have q149:a2_1 < (l1.length:Int):=of_decide_eq_true (by first | (with_reducible assumption) | assumption);obtain ⟨ad149,e149,hx149_0⟩:=Kd.at_int HR1.out a2_1 p149 q149;cases e149;replace hx149_0:=(HB.out.cell (World.block_lt_of_cell? w _ hx149_0)).trans hx149_0;replace p149:=eq_true p149;replace q149:=eq_true q149;have p150:0 ≤ (a2_1:Int):=of_decide_eq_true (by first | (with_reducible assumption) | assumption);have q150:a2_1 < (l0.length:Int):=of_decide_eq_true (by first | (with_reducible assumption) | assumption);obtain ⟨ad150,A150_0,c150_0,e150,hx150_0,hl150_0,hi150_0⟩:=at_L2 HR0.out a2_1 p150 q150;cases e150;replace hx150_0:=(HB.out.cell (World.block_lt_of_cell? w _ hx150_0)).trans hx150_0;have HR150_0:=Aside0.mk hi150_0;have HC150_0:=Aside0.mk hl150_0;clear hi150_0 hl150_0;replace p150:=eq_true p150;replace q150:=eq_true q150;have p151:0 ≤ (a2_0:Int):=of_decide_eq_true (by first | (with_reducible assumption) | assumption);have q151:a2_0 < (l0.length:Int):=of_decide_eq_true (by first | (with_reducible assumption) | assumption);obtain ⟨ad151,A151_0,c151_0,e151,hx151_0,hl151_0,hi151_0⟩:=at_L2 HR0.out a2_0 p151 q151;obtain rfl:ad150 = ad151:=(by injection e151);replace hx151_0:=(HB.out.cell (World.block_lt_of_cell? w _ hx151_0)).trans hx151_0;have HR151_0:=Aside0.mk hi151_0;have HC151_0:=Aside0.mk hl151_0;clear hi151_0 hl151_0;replace p151:=eq_true p151;replace q151:=eq_true q151;have p152:0 ≤ (a2_0:Int):=of_decide_eq_true (by first | (with_reducible assumption) | assumption);have q152:a2_0 < (l1.length:Int):=of_decide_eq_true (by first | (with_reducible assumption) | assumption);obtain ⟨ad152,e152,hx152_0⟩:=Kd.at_int HR1.out a2_0 p152 q152;obtain rfl:ad149 = ad152:=(by injection e152);replace hx152_0:=(HB.out.cell (World.block_lt_of_cell? w _ hx152_0)).trans hx152_0;replace p152:=eq_true p152;replace q152:=eq_true q152;have p153:0 ≤ ((rd l1 a2_0):Int):=of_decide_eq_true (by first | (with_reducible assumption) | assumption);have q153:(rd l1 a2_0) < ((rd_L2 l0 a2_0).length:Int):=of_decide_eq_true (by first | (with_reducible assumption) | assumption);obtain ⟨ad153,e153,hx153_0⟩:=Kd.at_int HR151_0.out (rd l1 a2_0) p153 q153;cases e153;replace hx153_0:=(HB.out.cell (World.block_lt_of_cell? w _ hx153_0)).trans hx153_0;replace p153:=eq_true p153;replace q153:=eq_true q153))
                repeat (go_quiet (first | (go_at_call 71;(try simp only [i64_w,i32_w]);(with_reducible refine (spec_l6In.calls a2_1 (wrap64 (a2_0 + 1)) (wrap64 ((l0.length:Int) - 1)) true _ A16.out).mono ?_);rintro e w' ⟨rfl,⟨nd,rfl⟩⟩;(try first | exact ⟨rfl,_,World.drewN_drewN _ _ _⟩ | exact ⟨rfl,_,Eq.trans (World.drewN_drewN _ _ _) (congrArg (World.drewN _) (Nat.add_assoc _ _ _))⟩);have p149:0 ≤ (a2_1:Int):=of_decide_eq_true (by first | (with_reducible assumption) | assumption);have q149:a2_1 < (l1.length:Int):=of_decide_eq_true (by first | (with_reducible assumption) | assumption);obtain ⟨ad149,e149,hx149_0⟩:=Kd.at_int HR1.out a2_1 p149 q149;cases e149;replace hx149_0:=(HB.out.cell (World.block_lt_of_cell? w _ hx149_0)).trans hx149_0;replace p149:=eq_true p149;replace q149:=eq_true q149;have p150:0 ≤ (a2_1:Int):=of_decide_eq_true (by first | (with_reducible assumption) | assumption);have q150:a2_1 < (l0.length:Int):=of_decide_eq_true (by first | (with_reducible assumption) | assumption);obtain ⟨ad150,A150_0,c150_0,e150,hx150_0,hl150_0,hi150_0⟩:=at_L2 HR0.out a2_1 p150 q150;cases e150;replace hx150_0:=(HB.out.cell (World.block_lt_of_cell? w _ hx150_0)).trans hx150_0;have HR150_0:=Aside0.mk hi150_0;have HC150_0:=Aside0.mk hl150_0;clear hi150_0 hl150_0;replace p150:=eq_true p150;replace q150:=eq_true q150;have p151:0 ≤ (a2_0:Int):=of_decide_eq_true (by first | (with_reducible assumption) | assumption);have q151:a2_0 < (l0.length:Int):=of_decide_eq_true (by first | (with_reducible assumption) | assumption);obtain ⟨ad151,A151_0,c151_0,e151,hx151_0,hl151_0,hi151_0⟩:=at_L2 HR0.out a2_0 p151 q151;obtain rfl:ad150 = ad151:=(by injection e151);replace hx151_0:=(HB.out.cell (World.block_lt_of_cell? w _ hx151_0)).trans hx151_0;have HR151_0:=Aside0.mk hi151_0;have HC151_0:=Aside0.mk hl151_0;clear hi151_0 hl151_0;replace p151:=eq_true p151;replace q151:=eq_true q151;have p152:0 ≤ (a2_0:Int):=of_decide_eq_true (by first | (with_reducible assumption) | assumption);have q152:a2_0 < (l1.length:Int):=of_decide_eq_true (by first | (with_reducible assumption) | assumption);obtain ⟨ad152,e152,hx152_0⟩:=Kd.at_int HR1.out a2_0 p152 q152;obtain rfl:ad149 = ad152:=(by injection e152);replace hx152_0:=(HB.out.cell (World.block_lt_of_cell? w _ hx152_0)).trans hx152_0;replace p152:=eq_true p152;replace q152:=eq_true q152;have p153:0 ≤ ((rd l1 a2_0):Int):=of_decide_eq_true (by first | (with_reducible assumption) | assumption);have q153:(rd l1 a2_0) < ((rd_L2 l0 a2_0).length:Int):=of_decide_eq_true (by first | (with_reducible assumption) | assumption);obtain ⟨ad153,e153,hx153_0⟩:=Kd.at_int HR151_0.out (rd l1 a2_0) p153 q153;cases e153;replace hx153_0:=(HB.out.cell (World.block_lt_of_cell? w _ hx153_0)).trans hx153_0;replace p153:=eq_true p153;replace q153:=eq_true q153));try go_wp2_with (first | (go_at_call 71;(try simp only [i64_w,i32_w]);(with_reducible refine (spec_l6In.calls a2_1 (wrap64 (a2_0 + 1)) (wrap64 ((l0.length:Int) - 1)) true _ A16.out).mono ?_);rintro e w' ⟨rfl,⟨nd,rfl⟩⟩;(try first | exact ⟨rfl,_,World.drewN_drewN _ _ _⟩ | exact ⟨rfl,_,Eq.trans (World.drewN_drewN _ _ _) (congrArg (World.drewN _) (Nat.add_assoc _ _ _))⟩);have p149:0 ≤ (a2_1:Int):=of_decide_eq_true (by first | (with_reducible assumption) | assumption);have q149:a2_1 < (l1.length:Int):=of_decide_eq_true (by first | (with_reducible assumption) | assumption);obtain ⟨ad149,e149,hx149_0⟩:=Kd.at_int HR1.out a2_1 p149 q149;cases e149;replace hx149_0:=(HB.out.cell (World.block_lt_of_cell? w _ hx149_0)).trans hx149_0;replace p149:=eq_true p149;replace q149:=eq_true q149;have p150:0 ≤ (a2_1:Int):=of_decide_eq_true (by first | (with_reducible assumption) | assumption);have q150:a2_1 < (l0.length:Int):=of_decide_eq_true (by first | (with_reducible assumption) | assumption);obtain ⟨ad150,A150_0,c150_0,e150,hx150_0,hl150_0,hi150_0⟩:=at_L2 HR0.out a2_1 p150 q150;cases e150;replace hx150_0:=(HB.out.cell (World.block_lt_of_cell? w _ hx150_0)).trans hx150_0;have HR150_0:=Aside0.mk hi150_0;have HC150_0:=Aside0.mk hl150_0;clear hi150_0 hl150_0;replace p150:=eq_true p150;replace q150:=eq_true q150;have p151:0 ≤ (a2_0:Int):=of_decide_eq_true (by first | (with_reducible assumption) | assumption);have q151:a2_0 < (l0.length:Int):=of_decide_eq_true (by first | (with_reducible assumption) | assumption);obtain ⟨ad151,A151_0,c151_0,e151,hx151_0,hl151_0,hi151_0⟩:=at_L2 HR0.out a2_0 p151 q151;obtain rfl:ad150 = ad151:=(by injection e151);replace hx151_0:=(HB.out.cell (World.block_lt_of_cell? w _ hx151_0)).trans hx151_0;have HR151_0:=Aside0.mk hi151_0;have HC151_0:=Aside0.mk hl151_0;clear hi151_0 hl151_0;replace p151:=eq_true p151;replace q151:=eq_true q151;have p152:0 ≤ (a2_0:Int):=of_decide_eq_true (by first | (with_reducible assumption) | assumption);have q152:a2_0 < (l1.length:Int):=of_decide_eq_true (by first | (with_reducible assumption) | assumption);obtain ⟨ad152,e152,hx152_0⟩:=Kd.at_int HR1.out a2_0 p152 q152;obtain rfl:ad149 = ad152:=(by injection e152);replace hx152_0:=(HB.out.cell (World.block_lt_of_cell? w _ hx152_0)).trans hx152_0;replace p152:=eq_true p152;replace q152:=eq_true q152;have p153:0 ≤ ((rd l1 a2_0):Int):=of_decide_eq_true (by first | (with_reducible assumption) | assumption);have q153:(rd l1 a2_0) < ((rd_L2 l0 a2_0).length:Int):=of_decide_eq_true (by first | (with_reducible assumption) | assumption);obtain ⟨ad153,e153,hx153_0⟩:=Kd.at_int HR151_0.out (rd l1 a2_0) p153 q153;cases e153;replace hx153_0:=(HB.out.cell (World.block_lt_of_cell? w _ hx153_0)).trans hx153_0;replace p153:=eq_true p153;replace q153:=eq_true q153)))
                go_ret
                exact ⟨by first | rfl | (simp [errW_none,errW_some] <;> rfl) | (simp [*,errW_none,errW_some] <;> rfl),by repeat (first | (with_reducible first | exact HB.out | apply below_alloc | apply pw_below_drewN | apply below_drew1 | refine below_set ?_ GE144.out) | exact HB.out)⟩
               ·rw [if_neg c28] at H
                have c28b0:((rd (rd_L2 l0 a2_0) (rd l1 a2_0)) == 0) = false:=beq_eq_false_iff_ne.mpr c28
                have c28b1:((rd (rd_L2 l0 a2_0) (rd l1 a2_0)) != 0) = true:=bne_iff_ne.mpr c28
                by_cases c30:0 ≤ (rd l1 a2_1)
                ·rw [if_pos c30] at H
                 have c30b0:decide (0 ≤ (rd l1 a2_1)) = true:=decide_eq_true c30
                 clear c30
                 by_cases c31:(rd l1 a2_1) < ((rd_L2 l0 a2_1).length:Int)
                 ·rw [if_pos c31] at H
                  have c31b0:decide ((rd l1 a2_1) < ((rd_L2 l0 a2_1).length:Int)) = true:=decide_eq_true c31
                  clear c31
                  obtain rfl:=Option.some.inj H
                  have hcz32_0:wc.cell? ⟨gb144,0,none⟩ = some (.int .i64 a2_0):=(blk_cell BK144.out 0).trans rfl
                  have hcz32_1:wc.cell? ⟨gb144,1,none⟩ = some (.int .i64 a2_1):=(blk_cell BK144.out 1).trans rfl
                  have hfz32_0:=blk_frozen BK144.out 0
                  have hfz32_1:=blk_frozen BK144.out 1
                  go_wp2_with (first | (go_at_call 71;(try simp only [i64_w,i32_w]);(with_reducible refine (spec_l6In.calls a2_1 (wrap64 (a2_0 + 1)) (wrap64 ((l0.length:Int) - 1)) true _ A16.out).mono ?_);rintro e w' ⟨rfl,⟨nd,rfl⟩⟩;(try first | exact ⟨rfl,_,World.drewN_drewN _ _ _⟩ | exact ⟨rfl,_,Eq.trans (World.drewN_drewN _ _ _) (congrArg (World.drewN _) (Nat.add_assoc _ _ _))⟩);have p149:0 ≤ (a2_1:Int):=of_decide_eq_true (by first | (with_reducible assumption) | assumption);have q149:a2_1 < (l1.length:Int):=of_decide_eq_true (by first | (with_reducible assumption) | assumption);obtain ⟨ad149,e149,hx149_0⟩:=Kd.at_int HR1.out a2_1 p149 q149;cases e149;replace hx149_0:=(HB.out.cell (World.block_lt_of_cell? w _ hx149_0)).trans hx149_0;replace p149:=eq_true p149;replace q149:=eq_true q149;have p150:0 ≤ (a2_1:Int):=of_decide_eq_true (by first | (with_reducible assumption) | assumption);have q150:a2_1 < (l0.length:Int):=of_decide_eq_true (by first | (with_reducible assumption) | assumption);obtain ⟨ad150,A150_0,c150_0,e150,hx150_0,hl150_0,hi150_0⟩:=at_L2 HR0.out a2_1 p150 q150;cases e150;replace hx150_0:=(HB.out.cell (World.block_lt_of_cell? w _ hx150_0)).trans hx150_0;have HR150_0:=Aside0.mk hi150_0;have HC150_0:=Aside0.mk hl150_0;clear hi150_0 hl150_0;replace p150:=eq_true p150;replace q150:=eq_true q150;have p151:0 ≤ (a2_0:Int):=of_decide_eq_true (by first | (with_reducible assumption) | assumption);have q151:a2_0 < (l0.length:Int):=of_decide_eq_true (by first | (with_reducible assumption) | assumption);obtain ⟨ad151,A151_0,c151_0,e151,hx151_0,hl151_0,hi151_0⟩:=at_L2 HR0.out a2_0 p151 q151;obtain rfl:ad150 = ad151:=(by injection e151);replace hx151_0:=(HB.out.cell (World.block_lt_of_cell? w _ hx151_0)).trans hx151_0;have HR151_0:=Aside0.mk hi151_0;have HC151_0:=Aside0.mk hl151_0;clear hi151_0 hl151_0;replace p151:=eq_true p151;replace q151:=eq_true q151;have p152:0 ≤ (a2_0:Int):=of_decide_eq_true (by first | (with_reducible assumption) | assumption);have q152:a2_0 < (l1.length:Int):=of_decide_eq_true (by first | (with_reducible assumption) | assumption);obtain ⟨ad152,e152,hx152_0⟩:=Kd.at_int HR1.out a2_0 p152 q152;obtain rfl:ad149 = ad152:=(by injection e152);replace hx152_0:=(HB.out.cell (World.block_lt_of_cell? w _ hx152_0)).trans hx152_0;replace p152:=eq_true p152;replace q152:=eq_true q152;have p153:0 ≤ ((rd l1 a2_0):Int):=of_decide_eq_true (by first | (with_reducible assumption) | assumption);have q153:(rd l1 a2_0) < ((rd_L2 l0 a2_0).length:Int):=of_decide_eq_true (by first | (with_reducible assumption) | assumption);obtain ⟨ad153,e153,hx153_0⟩:=Kd.at_int HR151_0.out (rd l1 a2_0) p153 q153;cases e153;replace hx153_0:=(HB.out.cell (World.block_lt_of_cell? w _ hx153_0)).trans hx153_0;replace p153:=eq_true p153;replace q153:=eq_true q153;have p154:0 ≤ (a2_1:Int):=of_decide_eq_true (by first | (with_reducible assumption) | assumption);have q154:a2_1 < (l0.length:Int):=of_decide_eq_true (by first | (with_reducible assumption) | assumption);obtain ⟨ad154,A154_0,c154_0,e154,hx154_0,hl154_0,hi154_0⟩:=at_L2 HR0.out a2_1 p154 q154;obtain rfl:ad150 = ad154:=(by injection e154);replace hx154_0:=(HB.out.cell (World.block_lt_of_cell? w _ hx154_0)).trans hx154_0;have HR154_0:=Aside0.mk hi154_0;have HC154_0:=Aside0.mk hl154_0;clear hi154_0 hl154_0;replace p154:=eq_true p154;replace q154:=eq_true q154;have ea_:=Option.some.inj (hx150_0.symm.trans hx154_0);injection ea_ with ea_ en_ ec_;subst ea_;subst ec_;clear en_;have p155:0 ≤ (a2_1:Int):=of_decide_eq_true (by first | (with_reducible assumption) | assumption);have q155:a2_1 < (l1.length:Int):=of_decide_eq_true (by first | (with_reducible assumption) | assumption);obtain ⟨ad155,e155,hx155_0⟩:=Kd.at_int HR1.out a2_1 p155 q155;obtain rfl:ad149 = ad155:=(by injection e155);replace hx155_0:=(HB.out.cell (World.block_lt_of_cell? w _ hx155_0)).trans hx155_0;replace p155:=eq_true p155;replace q155:=eq_true q155;have p156:0 ≤ ((rd l1 a2_1):Int):=of_decide_eq_true (by first | (with_reducible assumption) | assumption);have q156:(rd l1 a2_1) < ((rd_L2 l0 a2_1).length:Int):=of_decide_eq_true (by first | (with_reducible assumption) | assumption);obtain ⟨ad156,e156,hx156_0⟩:=Kd.at_int HR154_0.out (rd l1 a2_1) p156 q156;cases e156;replace hx156_0:=(HB.out.cell (World.block_lt_of_cell? w _ hx156_0)).trans hx156_0;replace p156:=eq_true p156;replace q156:=eq_true q156))
                  repeat (go_quiet (first | (go_at_call 71;(try simp only [i64_w,i32_w]);(with_reducible refine (spec_l6In.calls a2_1 (wrap64 (a2_0 + 1)) (wrap64 ((l0.length:Int) - 1)) true _ A16.out).mono ?_);rintro e w' ⟨rfl,⟨nd,rfl⟩⟩;(try first | exact ⟨rfl,_,World.drewN_drewN _ _ _⟩ | exact ⟨rfl,_,Eq.trans (World.drewN_drewN _ _ _) (congrArg (World.drewN _) (Nat.add_assoc _ _ _))⟩);have p149:0 ≤ (a2_1:Int):=of_decide_eq_true (by first | (with_reducible assumption) | assumption);have q149:a2_1 < (l1.length:Int):=of_decide_eq_true (by first | (with_reducible assumption) | assumption);obtain ⟨ad149,e149,hx149_0⟩:=Kd.at_int HR1.out a2_1 p149 q149;cases e149;replace hx149_0:=(HB.out.cell (World.block_lt_of_cell? w _ hx149_0)).trans hx149_0;replace p149:=eq_true p149;replace q149:=eq_true q149;have p150:0 ≤ (a2_1:Int):=of_decide_eq_true (by first | (with_reducible assumption) | assumption);have q150:a2_1 < (l0.length:Int):=of_decide_eq_true (by first | (with_reducible assumption) | assumption);obtain ⟨ad150,A150_0,c150_0,e150,hx150_0,hl150_0,hi150_0⟩:=at_L2 HR0.out a2_1 p150 q150;cases e150;replace hx150_0:=(HB.out.cell (World.block_lt_of_cell? w _ hx150_0)).trans hx150_0;have HR150_0:=Aside0.mk hi150_0;have HC150_0:=Aside0.mk hl150_0;clear hi150_0 hl150_0;replace p150:=eq_true p150;replace q150:=eq_true q150;have p151:0 ≤ (a2_0:Int):=of_decide_eq_true (by first | (with_reducible assumption) | assumption);have q151:a2_0 < (l0.length:Int):=of_decide_eq_true (by first | (with_reducible assumption) | assumption);obtain ⟨ad151,A151_0,c151_0,e151,hx151_0,hl151_0,hi151_0⟩:=at_L2 HR0.out a2_0 p151 q151;obtain rfl:ad150 = ad151:=(by injection e151);replace hx151_0:=(HB.out.cell (World.block_lt_of_cell? w _ hx151_0)).trans hx151_0;have HR151_0:=Aside0.mk hi151_0;have HC151_0:=Aside0.mk hl151_0;clear hi151_0 hl151_0;replace p151:=eq_true p151;replace q151:=eq_true q151;have p152:0 ≤ (a2_0:Int):=of_decide_eq_true (by first | (with_reducible assumption) | assumption);have q152:a2_0 < (l1.length:Int):=of_decide_eq_true (by first | (with_reducible assumption) | assumption);obtain ⟨ad152,e152,hx152_0⟩:=Kd.at_int HR1.out a2_0 p152 q152;obtain rfl:ad149 = ad152:=(by injection e152);replace hx152_0:=(HB.out.cell (World.block_lt_of_cell? w _ hx152_0)).trans hx152_0;replace p152:=eq_true p152;replace q152:=eq_true q152;have p153:0 ≤ ((rd l1 a2_0):Int):=of_decide_eq_true (by first | (with_reducible assumption) | assumption);have q153:(rd l1 a2_0) < ((rd_L2 l0 a2_0).length:Int):=of_decide_eq_true (by first | (with_reducible assumption) | assumption);obtain ⟨ad153,e153,hx153_0⟩:=Kd.at_int HR151_0.out (rd l1 a2_0) p153 q153;cases e153;replace hx153_0:=(HB.out.cell (World.block_lt_of_cell? w _ hx153_0)).trans hx153_0;replace p153:=eq_true p153;replace q153:=eq_true q153;have p154:0 ≤ (a2_1:Int):=of_decide_eq_true (by first | (with_reducible assumption) | assumption);have q154:a2_1 < (l0.length:Int):=of_decide_eq_true (by first | (with_reducible assumption) | assumption);obtain ⟨ad154,A154_0,c154_0,e154,hx154_0,hl154_0,hi154_0⟩:=at_L2 HR0.out a2_1 p154 q154;obtain rfl:ad150 = ad154:=(by injection e154);replace hx154_0:=(HB.out.cell (World.block_lt_of_cell? w _ hx154_0)).trans hx154_0;have HR154_0:=Aside0.mk hi154_0;have HC154_0:=Aside0.mk hl154_0;clear hi154_0 hl154_0;replace p154:=eq_true p154;replace q154:=eq_true q154;have ea_:=Option.some.inj (hx150_0.symm.trans hx154_0);injection ea_ with ea_ en_ ec_;subst ea_;subst ec_;clear en_;have p155:0 ≤ (a2_1:Int):=of_decide_eq_true (by first | (with_reducible assumption) | assumption);have q155:a2_1 < (l1.length:Int):=of_decide_eq_true (by first | (with_reducible assumption) | assumption);obtain ⟨ad155,e155,hx155_0⟩:=Kd.at_int HR1.out a2_1 p155 q155;obtain rfl:ad149 = ad155:=(by injection e155);replace hx155_0:=(HB.out.cell (World.block_lt_of_cell? w _ hx155_0)).trans hx155_0;replace p155:=eq_true p155;replace q155:=eq_true q155;have p156:0 ≤ ((rd l1 a2_1):Int):=of_decide_eq_true (by first | (with_reducible assumption) | assumption);have q156:(rd l1 a2_1) < ((rd_L2 l0 a2_1).length:Int):=of_decide_eq_true (by first | (with_reducible assumption) | assumption);obtain ⟨ad156,e156,hx156_0⟩:=Kd.at_int HR154_0.out (rd l1 a2_1) p156 q156;cases e156;replace hx156_0:=(HB.out.cell (World.block_lt_of_cell? w _ hx156_0)).trans hx156_0;replace p156:=eq_true p156;replace q156:=eq_true q156));try go_wp2_with (first | (go_at_call 71;(try simp only [i64_w,i32_w]);(with_reducible refine (spec_l6In.calls a2_1 (wrap64 (a2_0 + 1)) (wrap64 ((l0.length:Int) - 1)) true _ A16.out).mono ?_);rintro e w' ⟨rfl,⟨nd,rfl⟩⟩;(try first | exact ⟨rfl,_,World.drewN_drewN _ _ _⟩ | exact ⟨rfl,_,Eq.trans (World.drewN_drewN _ _ _) (congrArg (World.drewN _) (Nat.add_assoc _ _ _))⟩);have p149:0 ≤ (a2_1:Int):=of_decide_eq_true (by first | (with_reducible assumption) | assumption);have q149:a2_1 < (l1.length:Int):=of_decide_eq_true (by first | (with_reducible assumption) | assumption);obtain ⟨ad149,e149,hx149_0⟩:=Kd.at_int HR1.out a2_1 p149 q149;cases e149;replace hx149_0:=(HB.out.cell (World.block_lt_of_cell? w _ hx149_0)).trans hx149_0;replace p149:=eq_true p149;replace q149:=eq_true q149;have p150:0 ≤ (a2_1:Int):=of_decide_eq_true (by first | (with_reducible assumption) | assumption);have q150:a2_1 < (l0.length:Int):=of_decide_eq_true (by first | (with_reducible assumption) | assumption);obtain ⟨ad150,A150_0,c150_0,e150,hx150_0,hl150_0,hi150_0⟩:=at_L2 HR0.out a2_1 p150 q150;cases e150;replace hx150_0:=(HB.out.cell (World.block_lt_of_cell? w _ hx150_0)).trans hx150_0;have HR150_0:=Aside0.mk hi150_0;have HC150_0:=Aside0.mk hl150_0;clear hi150_0 hl150_0;replace p150:=eq_true p150;replace q150:=eq_true q150;have p151:0 ≤ (a2_0:Int):=of_decide_eq_true (by first | (with_reducible assumption) | assumption);have q151:a2_0 < (l0.length:Int):=of_decide_eq_true (by first | (with_reducible assumption) | assumption);obtain ⟨ad151,A151_0,c151_0,e151,hx151_0,hl151_0,hi151_0⟩:=at_L2 HR0.out a2_0 p151 q151;obtain rfl:ad150 = ad151:=(by injection e151);replace hx151_0:=(HB.out.cell (World.block_lt_of_cell? w _ hx151_0)).trans hx151_0;have HR151_0:=Aside0.mk hi151_0;have HC151_0:=Aside0.mk hl151_0;clear hi151_0 hl151_0;replace p151:=eq_true p151;replace q151:=eq_true q151;have p152:0 ≤ (a2_0:Int):=of_decide_eq_true (by first | (with_reducible assumption) | assumption);have q152:a2_0 < (l1.length:Int):=of_decide_eq_true (by first | (with_reducible assumption) | assumption);obtain ⟨ad152,e152,hx152_0⟩:=Kd.at_int HR1.out a2_0 p152 q152;obtain rfl:ad149 = ad152:=(by injection e152);replace hx152_0:=(HB.out.cell (World.block_lt_of_cell? w _ hx152_0)).trans hx152_0;replace p152:=eq_true p152;replace q152:=eq_true q152;have p153:0 ≤ ((rd l1 a2_0):Int):=of_decide_eq_true (by first | (with_reducible assumption) | assumption);have q153:(rd l1 a2_0) < ((rd_L2 l0 a2_0).length:Int):=of_decide_eq_true (by first | (with_reducible assumption) | assumption);obtain ⟨ad153,e153,hx153_0⟩:=Kd.at_int HR151_0.out (rd l1 a2_0) p153 q153;cases e153;replace hx153_0:=(HB.out.cell (World.block_lt_of_cell? w _ hx153_0)).trans hx153_0;replace p153:=eq_true p153;replace q153:=eq_true q153;have p154:0 ≤ (a2_1:Int):=of_decide_eq_true (by first | (with_reducible assumption) | assumption);have q154:a2_1 < (l0.length:Int):=of_decide_eq_true (by first | (with_reducible assumption) | assumption);obtain ⟨ad154,A154_0,c154_0,e154,hx154_0,hl154_0,hi154_0⟩:=at_L2 HR0.out a2_1 p154 q154;obtain rfl:ad150 = ad154:=(by injection e154);replace hx154_0:=(HB.out.cell (World.block_lt_of_cell? w _ hx154_0)).trans hx154_0;have HR154_0:=Aside0.mk hi154_0;have HC154_0:=Aside0.mk hl154_0;clear hi154_0 hl154_0;replace p154:=eq_true p154;replace q154:=eq_true q154;have ea_:=Option.some.inj (hx150_0.symm.trans hx154_0);injection ea_ with ea_ en_ ec_;subst ea_;subst ec_;clear en_;have p155:0 ≤ (a2_1:Int):=of_decide_eq_true (by first | (with_reducible assumption) | assumption);have q155:a2_1 < (l1.length:Int):=of_decide_eq_true (by first | (with_reducible assumption) | assumption);obtain ⟨ad155,e155,hx155_0⟩:=Kd.at_int HR1.out a2_1 p155 q155;obtain rfl:ad149 = ad155:=(by injection e155);replace hx155_0:=(HB.out.cell (World.block_lt_of_cell? w _ hx155_0)).trans hx155_0;replace p155:=eq_true p155;replace q155:=eq_true q155;have p156:0 ≤ ((rd l1 a2_1):Int):=of_decide_eq_true (by first | (with_reducible assumption) | assumption);have q156:(rd l1 a2_1) < ((rd_L2 l0 a2_1).length:Int):=of_decide_eq_true (by first | (with_reducible assumption) | assumption);obtain ⟨ad156,e156,hx156_0⟩:=Kd.at_int HR154_0.out (rd l1 a2_1) p156 q156;cases e156;replace hx156_0:=(HB.out.cell (World.block_lt_of_cell? w _ hx156_0)).trans hx156_0;replace p156:=eq_true p156;replace q156:=eq_true q156)))
                  go_ret
                  exact ⟨by first | rfl | (simp [errW_none,errW_some] <;> rfl) | (simp [*,errW_none,errW_some] <;> rfl),by repeat (first | (with_reducible first | exact HB.out | apply below_alloc | apply pw_below_drewN | apply below_drew1 | refine below_set ?_ GE144.out) | exact HB.out)⟩
                 ·rw [if_neg c31] at H
                  exact absurd H (by simp)
                ·rw [if_neg c30] at H
                 exact absurd H (by simp)
              ·rw [if_neg c27] at H
               exact absurd H (by simp)
             ·rw [if_neg c26] at H
              exact absurd H (by simp)
            ·rw [if_neg c25] at H
             exact absurd H (by simp)
           ·rw [if_neg c24] at H
            exact absurd H (by simp)
          ·rw [if_neg c23] at H
           exact absurd H (by simp)
        ·rw [if_neg c20] at H
         exact absurd H (by simp)
       ·rw [if_neg c19] at H
        exact absurd H (by simp)
      ·rw [if_neg c18] at H
       exact absurd H (by simp)
     ·replace c17:=Bool.eq_false_iff.mpr c17
      subst c17
      have H1:(some false) = some r:=by rw [if_neg (show ¬ (false = true) by decide)] at H;exact H
      clear H
      have H:=H1
      clear H1
      obtain rfl:=Option.some.inj H
      have hcz33_0:wc.cell? ⟨gb144,0,none⟩ = some (.int .i64 a2_0):=(blk_cell BK144.out 0).trans rfl
      have hcz33_1:wc.cell? ⟨gb144,1,none⟩ = some (.int .i64 a2_1):=(blk_cell BK144.out 1).trans rfl
      have hfz33_0:=blk_frozen BK144.out 0
      have hfz33_1:=blk_frozen BK144.out 1
      go_wp2_with (first | (go_at_call 71;(try simp only [i64_w,i32_w]);(with_reducible refine (spec_l6In.calls a2_1 (wrap64 (a2_0 + 1)) (wrap64 ((l0.length:Int) - 1)) false _ A16.out).mono ?_);rintro e w' ⟨rfl,⟨nd,rfl⟩⟩;(try first | exact ⟨rfl,_,World.drewN_drewN _ _ _⟩ | exact ⟨rfl,_,Eq.trans (World.drewN_drewN _ _ _) (congrArg (World.drewN _) (Nat.add_assoc _ _ _))⟩)))
      repeat (go_quiet (first | (go_at_call 71;(try simp only [i64_w,i32_w]);(with_reducible refine (spec_l6In.calls a2_1 (wrap64 (a2_0 + 1)) (wrap64 ((l0.length:Int) - 1)) false _ A16.out).mono ?_);rintro e w' ⟨rfl,⟨nd,rfl⟩⟩;(try first | exact ⟨rfl,_,World.drewN_drewN _ _ _⟩ | exact ⟨rfl,_,Eq.trans (World.drewN_drewN _ _ _) (congrArg (World.drewN _) (Nat.add_assoc _ _ _))⟩)));try go_wp2_with (first | (go_at_call 71;(try simp only [i64_w,i32_w]);(with_reducible refine (spec_l6In.calls a2_1 (wrap64 (a2_0 + 1)) (wrap64 ((l0.length:Int) - 1)) false _ A16.out).mono ?_);rintro e w' ⟨rfl,⟨nd,rfl⟩⟩;(try first | exact ⟨rfl,_,World.drewN_drewN _ _ _⟩ | exact ⟨rfl,_,Eq.trans (World.drewN_drewN _ _ _) (congrArg (World.drewN _) (Nat.add_assoc _ _ _))⟩))))
      go_ret
      exact ⟨by first | rfl | (simp [errW_none,errW_some] <;> rfl) | (simp [*,errW_none,errW_some] <;> rfl),by repeat (first | (with_reducible first | exact HB.out | apply below_alloc | apply pw_below_drewN | apply below_drew1 | refine below_set ?_ GE144.out) | exact HB.out)⟩
def spec_l19At.l0:Nat → List (List Int) → List (S32) → List Int → Int → Option (List Int × Bool)
 | 0,_,_,_,_=>none
 | k + 1,x0,x1,x6,x7=>if x7 < (x1.length:Int) then (if 0 ≤ x7 then ((spec_l19Can.f k x0 x6 ((rd_T32 x1 x7).f0) ((rd_T32 x1 x7).f1)).bind fun t161=>(if t161 = true then (if 0 ≤ ((rd_T32 x1 x7).f0) then (if ((rd_T32 x1 x7).f0) < (x6.length:Int) then ((some (x6.set (((rd_T32 x1 x7).f0):Int).toNat (wrap64 ((rd x6 ((rd_T32 x1 x7).f0)) + 1)):List Int)).bind fun y165=>(if ((rd_T32 x1 x7).f1) ≥ 0 then (if 0 ≤ ((rd_T32 x1 x7).f1) then (if ((rd_T32 x1 x7).f1) < (x6.length:Int) then (spec_l19At.l0 k x0 x1 (y165.set (((rd_T32 x1 x7).f1):Int).toNat (wrap64 ((rd y165 ((rd_T32 x1 x7).f1)) + 1))) (wrap64 (x7 + 1))) else (none)) else (none)) else (spec_l19At.l0 k x0 x1 y165 (wrap64 (x7 + 1))))) else (none)) else (none)) else (some (([]:List Int),false)))) else (none)) else (some (x6,true))
def spec_l19At.f (k:Nat) (l0:List (List Int)) (l1:List (S32)):Option (List Int × Bool):=if 0 ≤ (l0.length:Int) then (if ((l0.length:Int):Int).toNat ≤ 35184372088832 then (spec_l19At.l0 k l0 l1 (List.replicate ((l0.length:Int):Int).toNat 0) 0) else (none)) else (none)
theorem spec_l19At.mono_l:∀ k,(∀ y0 y1 y2 y3,LeO (spec_l19At.l0 k y0 y1 y2 y3) (spec_l19At.l0 (k + 1) y0 y1 y2 y3))
 | 0=>fun _ _ _ _ r h=>by simp [spec_l19At.l0] at h
 | k + 1=>by
  have ih0:=spec_l19At.mono_l k
  ·intro y0 y1 y2 y3
   unfold spec_l19At.l0
   repeat' first
   | (with_reducible exact ih0 _ _ _ _)
   | (with_reducible exact spec_l19Can.mono _ _ _ _ _)
   | (with_reducible exact LeO.refl _)
   | (with_reducible exact LeO.none _)
   | (with_reducible refine LeO.ite ?_ ?_)
   | (with_reducible refine LeO.bind ?_ (fun _=>?_))
   | exact ih0 _ _ _ _
   | exact spec_l19Can.mono _ _ _ _ _
   | exact LeO.none _
   | refine LeO.ite ?_ ?_
   | refine LeO.bind ?_ (fun _=>?_)
theorem spec_l19At.mono:∀ a0 a1 k,LeO (spec_l19At.f k a0 a1) (spec_l19At.f (k + 1) a0 a1):=by
 intro a0 a1 k
 have ih0:=spec_l19At.mono_l k
 unfold spec_l19At.f
 repeat' first
   | (with_reducible exact ih0 _ _ _ _)
   | (with_reducible exact spec_l19Can.mono _ _ _ _ _)
   | (with_reducible exact LeO.refl _)
   | (with_reducible exact LeO.none _)
   | (with_reducible refine LeO.ite ?_ ?_)
   | (with_reducible refine LeO.bind ?_ (fun _=>?_))
   | exact ih0 _ _ _ _
   | exact spec_l19Can.mono _ _ _ _ _
   | exact LeO.none _
   | refine LeO.ite ?_ ?_
   | refine LeO.bind ?_ (fun _=>?_)
def spec_l19At.T7:Bool × List (List Nat × List Nat):=(true,[([],[]),([],[]),([],[]),([1,2],[1,2]),([3],[3]),([4],[4]),([],[]),([],[]),([],[]),([7,8],[7,8]),([9],[9]),([10],[10]),([6,11],[6,11]),([12],[12]),([13],[13]),([0,5,0,1,2,3,4,5,6,7,8,9,10,11,12,13,14],[0,5]),([15,14,0,1,2,3,4,5,6,7,8,9,10,11,12,13,14],[14,15])])
def spec_l19At.B7:List Nat:=[0,0,0,6,14,30,0,0,0,384,896,1920,4032,8128,16320,32767,65535]
theorem spec_l19At.tab7:rtab .any (opsOf Try.f59 7) = spec_l19At.T7:=by kernel_rfl
theorem spec_l19At.bits7:waitsOk spec_l19At.T7.2 spec_l19At.B7 = true:=by kernel_rfl
def spec_l19At.T9:Bool × List (List Nat × List Nat):=(true,[([],[]),([],[]),([],[]),([1,2],[1,2]),([3],[3]),([4],[4]),([],[]),([],[]),([],[]),([7,8],[7,8]),([9],[9]),([10],[10]),([6,11],[6,11]),([12],[12]),([13],[13]),([0,5,0,1,2,3,4,5,6,7,8,9,10,11,12,13,14],[0,5]),([15,14,0,1,2,3,4,5,6,7,8,9,10,11,12,13,14],[14,15])])
def spec_l19At.B9:List Nat:=[0,0,0,6,14,30,0,0,0,384,896,1920,4032,8128,16320,32767,65535]
theorem spec_l19At.tab9:rtab .any (opsOf Try.f59 9) = spec_l19At.T9:=by kernel_rfl
theorem spec_l19At.bits9:waitsOk spec_l19At.T9.2 spec_l19At.B9 = true:=by kernel_rfl
set_option maxHeartbeats 8000000 in
set_option maxRecDepth 100000 in
theorem spec_l19At.calls (k:Nat) (A0:Option Addr) (c0:Nat) (l0:List (List Int)) (A1:Option Addr) (c1:Nat) (l1:List (S32)) (r1:List Int) (r2:Bool) (w:World) (hr0:Kd.C (Kd.slice 3 (Kd.int .i64)) w A0 l0.length l0) (hc0:l0.length ≤ c0) (hr1:Kd.C k32 w A1 l1.length l1) (hc1:l1.length ≤ c1) (h:spec_l19At.f k l0 l1 = some (r1,r2)) :
  Calls Try.prog 59 #[.slice A0 l0.length c0,.slice A1 l1.length c1] w fun e w'=>∃ v0_:Value,e = .returned (.tuple #[v0_,.bool r2])∧Kd.R (Kd.int .i64) 3 w' w.heap.size (fun _=>True) v0_ r1∧Below w.heap.size w w':=by
 have hu32:=Try.underlying32
 have HR0:=Aside0.mk hr0
 have HC0:=Aside0.mk hc0
 clear hr0 hc0
 have HR1:=Aside0.mk hr1
 have HC1:=Aside0.mk hc1
 clear hr1 hc1
 have HB:=Aside0.mk (Below.refl w.heap.size w)
 have H:(if 0 ≤ (l0.length:Int) then (if ((l0.length:Int):Int).toNat ≤ 35184372088832 then (spec_l19At.l0 k l0 l1 (List.replicate ((l0.length:Int):Int).toNat 0) 0) else (none)) else (none)) = some (r1,r2):=h
 clear h
 by_cases c3:0 ≤ (l0.length:Int)
 ·rw [if_pos c3] at H
  have c3b0:=eq_true c3
  have c3b1:decide (0 ≤ (l0.length:Int)) = true:=decide_eq_true c3
  clear c3
  by_cases c4:((l0.length:Int):Int).toNat ≤ 35184372088832
  ·rw [if_pos c4] at H
   have c4b0:=eq_true c4
   have c4b1:decide (((l0.length:Int):Int).toNat ≤ 35184372088832) = true:=decide_eq_true c4
   clear c4
   obtain ⟨y157,hy157⟩:∃ y_:List Int,y_ = (List.replicate ((l0.length:Int):Int).toNat 0):=⟨_,rfl⟩
   replace H:(spec_l19At.l0 k l0 l1 y157 0) = some (r1,r2):=by first | (rw [hy157];with_reducible exact H) | (have H2_:=(Option.bind_some _ _).symm.trans H;rw [hy157];with_reducible exact H2_) | (have H2_:=(Option.bind_some _ _).symm.trans H;with_reducible exact H2_) | with_reducible exact H | (rw [hy157];exact H) | exact H
   have Ny157:=Aside0.mk hy157
   clear hy157
   have H':=Aside0.mk H
   clear H
   go_enter Try.func59,Try.ntmps59
   go_wp2_with (first | ((with_reducible refine gate_dst (N:=10) rfl ?_);refine Kd.R_make (Kd.int .i64) _ 3 rfl (N:=10) rfl 27 _ _ rfl (l0.length:Int) rfl rfl Try.underlying27 (.int .i64 0) 8 info3 rfl (by decide) (by omega) 0 (ok:=fun _=>True) (okp:=fun _=>True) rfl (fun _ hk=>hk) trivial (of_decide_eq_true (by first | (with_reducible assumption) | assumption)) (Nat.le_trans (Nat.mul_le_mul_right _ (of_decide_eq_true (by first | (with_reducible assumption) | assumption):(l0.length:Int).toNat ≤ 35184372088832)) (by omega)) (Below.refl _ _) (Nat.le_refl _) ?_;intro v158 w5 ho6 hb hg_ hnew_;clear hg_ hnew_;(first | rw [← Ny157.out] at ho6 | (simp only [Int.reduceToNat] at ho6;rw [← Ny157.out] at ho6));have n0_:=Aside0.mk (Kd.R_lower ho6 (below_size (by repeat (first | (with_reducible first | exact HB.out | apply below_alloc | apply pw_below_drewN | apply below_drew1) | exact HB.out))));have n1_:=Aside0.mk (below_step (by repeat (first | (with_reducible first | exact HB.out | apply below_alloc | apply pw_below_drewN | apply below_drew1) | exact HB.out)) hb);clear HB;have HO159:=n0_;have HB:=n1_;clear n0_ n1_;clear hb ho6))
   go_loopg [7] k (fun kq v7 w'=>∃ (x6_1:List Int) (x7_1:Int),v7 = .int .i64 x7_1∧Aside0 (spec_l19At.l0 kq l0 l1 x6_1 x7_1 = some (r1,r2))∧Aside0 (kq ≤ k)∧Aside0 (Kd.R (Kd.int .i64) 3 w' w.heap.size (fun _=>True) v158 x6_1)∧Aside0 (Below w.heap.size w w'))
   case atStart=>exact ⟨(y157),(0),(by first | rfl | (simp;done) | (simp [*];done)),H',⟨Nat.le_refl _⟩,⟨by (with_reducible repeat (first | apply Kd.R_alloc | apply Kd.R_drewN | apply Kd.R_drew));exact HO159.out⟩,⟨by repeat (first | (with_reducible first | exact HB.out | apply below_alloc | apply pw_below_drewN | apply below_drew1) | exact HB.out)⟩⟩
   case round =>
    clear H'
    try clear c1
    try clear p2
    try clear c3
    try clear c3b0
    try clear c3b1
    try clear c4
    try clear c4b0
    try clear c4b1
    try clear c5
    obtain ⟨x6_1,x7_1,rfl,HA,HK1,HO_6,HB⟩:=hrel
    cases gk with
    | zero=>exact absurd HA.out (by simp [spec_l19At.l0])
    | succ k1 =>
     have H:=HA.out
     clear HA
     simp only [spec_l19At.l0] at H
     by_cases c7:x7_1 < (l1.length:Int)
     ·rw [if_pos c7] at H
      have c7b0:decide (x7_1 < (l1.length:Int)) = true:=decide_eq_true c7
      clear c7
      by_cases c8:0 ≤ x7_1
      ·rw [if_pos c8] at H
       have c8b0:decide (0 ≤ x7_1) = true:=decide_eq_true c8
       clear c8
       replace H:=Option.bind_eq_some_iff.mp H
       obtain ⟨t161,A90,H⟩:=H
       replace H:(if t161 = true then (if 0 ≤ ((rd_T32 l1 x7_1).f0) then (if ((rd_T32 l1 x7_1).f0) < (x6_1.length:Int) then ((some (x6_1.set (((rd_T32 l1 x7_1).f0):Int).toNat (wrap64 ((rd x6_1 ((rd_T32 l1 x7_1).f0)) + 1)):List Int)).bind fun y165=>(if ((rd_T32 l1 x7_1).f1) ≥ 0 then (if 0 ≤ ((rd_T32 l1 x7_1).f1) then (if ((rd_T32 l1 x7_1).f1) < (x6_1.length:Int) then (spec_l19At.l0 k1 l0 l1 (y165.set (((rd_T32 l1 x7_1).f1):Int).toNat (wrap64 ((rd y165 ((rd_T32 l1 x7_1).f1)) + 1))) (wrap64 (x7_1 + 1))) else (none)) else (none)) else (spec_l19At.l0 k1 l0 l1 y165 (wrap64 (x7_1 + 1))))) else (none)) else (none)) else (some (([]:List Int),false))) = some (r1,r2):=H
       have A9:=Aside0.mk A90
       clear A90
       by_cases c10:t161 = true
       ·subst c10
        have H1:(if 0 ≤ ((rd_T32 l1 x7_1).f0) then (if ((rd_T32 l1 x7_1).f0) < (x6_1.length:Int) then ((some (x6_1.set (((rd_T32 l1 x7_1).f0):Int).toNat (wrap64 ((rd x6_1 ((rd_T32 l1 x7_1).f0)) + 1)):List Int)).bind fun y165=>(if ((rd_T32 l1 x7_1).f1) ≥ 0 then (if 0 ≤ ((rd_T32 l1 x7_1).f1) then (if ((rd_T32 l1 x7_1).f1) < (x6_1.length:Int) then (spec_l19At.l0 k1 l0 l1 (y165.set (((rd_T32 l1 x7_1).f1):Int).toNat (wrap64 ((rd y165 ((rd_T32 l1 x7_1).f1)) + 1))) (wrap64 (x7_1 + 1))) else (none)) else (none)) else (spec_l19At.l0 k1 l0 l1 y165 (wrap64 (x7_1 + 1))))) else (none)) else (none)) = some (r1,r2):=by rw [if_pos rfl] at H;exact H
        clear H
        have H:=H1
        clear H1
        by_cases c11:0 ≤ ((rd_T32 l1 x7_1).f0)
        ·rw [if_pos c11] at H
         have c11b0:decide (0 ≤ ((rd_T32 l1 x7_1).f0)) = true:=decide_eq_true c11
         clear c11
         by_cases c12:((rd_T32 l1 x7_1).f0) < (x6_1.length:Int)
         ·rw [if_pos c12] at H
          have c12b0:decide (((rd_T32 l1 x7_1).f0) < (x6_1.length:Int)) = true:=decide_eq_true c12
          clear c12
          obtain ⟨y165,hy165⟩:∃ y_:List Int,y_ = (x6_1.set (((rd_T32 l1 x7_1).f0):Int).toNat (wrap64 ((rd x6_1 ((rd_T32 l1 x7_1).f0)) + 1))):=⟨_,rfl⟩
          replace H:(if ((rd_T32 l1 x7_1).f1) ≥ 0 then (if 0 ≤ ((rd_T32 l1 x7_1).f1) then (if ((rd_T32 l1 x7_1).f1) < (x6_1.length:Int) then (spec_l19At.l0 k1 l0 l1 (y165.set (((rd_T32 l1 x7_1).f1):Int).toNat (wrap64 ((rd y165 ((rd_T32 l1 x7_1).f1)) + 1))) (wrap64 (x7_1 + 1))) else (none)) else (none)) else (spec_l19At.l0 k1 l0 l1 y165 (wrap64 (x7_1 + 1)))) = some (r1,r2):=by first | (rw [hy165];with_reducible exact H) | (have H2_:=(Option.bind_some _ _).symm.trans H;rw [hy165];with_reducible exact H2_) | (have H2_:=(Option.bind_some _ _).symm.trans H;with_reducible exact H2_) | with_reducible exact H | (rw [hy165];exact H) | exact H
          have Ny165:=Aside0.mk hy165
          clear hy165
          by_cases c14:((rd_T32 l1 x7_1).f1) ≥ 0
          ·rw [if_pos c14] at H
           have c14b0:decide (0 ≤ ((rd_T32 l1 x7_1).f1)) = true:=decide_eq_true c14
           clear c14
           by_cases c15:0 ≤ ((rd_T32 l1 x7_1).f1)
           ·rw [if_pos c15] at H
            have c15b0:decide (0 ≤ ((rd_T32 l1 x7_1).f1)) = true:=decide_eq_true c15
            clear c15
            by_cases c16:((rd_T32 l1 x7_1).f1) < (x6_1.length:Int)
            ·rw [if_pos c16] at H
             have c16b0:decide (((rd_T32 l1 x7_1).f1) < (x6_1.length:Int)) = true:=decide_eq_true c16
             clear c16
             obtain ⟨y170,hy170⟩:∃ y_:List Int,y_ = (y165.set (((rd_T32 l1 x7_1).f1):Int).toNat (wrap64 ((rd y165 ((rd_T32 l1 x7_1).f1)) + 1))):=⟨_,rfl⟩
             replace H:(spec_l19At.l0 k1 l0 l1 y170 (wrap64 (x7_1 + 1))) = some (r1,r2):=by first | (rw [hy170];with_reducible exact H) | (have H2_:=(Option.bind_some _ _).symm.trans H;rw [hy170];with_reducible exact H2_) | (have H2_:=(Option.bind_some _ _).symm.trans H;with_reducible exact H2_) | with_reducible exact H | (rw [hy170];exact H) | exact H
             have Ny170:=Aside0.mk hy170
             clear hy170
             have H':=Aside0.mk H
             clear H
             have p160:0 ≤ (x7_1:Int):=of_decide_eq_true (by first | (with_reducible assumption) | assumption)
             have q160:x7_1 < (l1.length:Int):=of_decide_eq_true (by first | (with_reducible assumption) | assumption)
             obtain ⟨ad160,e160,hx160_0,hx160_1⟩:=at_T32 HR1.out x7_1 p160 q160
             cases e160
             replace hx160_0:=(HB.out.cell (World.block_lt_of_cell? w _ hx160_0)).trans hx160_0
             replace hx160_1:=(HB.out.cell (World.block_lt_of_cell? w _ hx160_1)).trans hx160_1
             replace p160:=eq_true p160
             replace q160:=eq_true q160
             obtain ⟨Ao18,co18,eo18⟩:=Kd.R_slice HO_6.out
             subst eo18
             try go_wp2_with (first | ((with_reducible refine gate_callee (f:=64) rfl ?_);refine goesL_ (some 23) rfl rfl Try.func64 (by kernel_rfl) rfl #[.slice A0 l0.length c0,.slice Ao18 x6_1.length co18,.agg #[.int .i64 ((rd_T32 l1 x7_1).f0),.int .i64 ((rd_T32 l1 x7_1).f1)]] rfl (by (try simp only [List.map_toArray,List.map_cons,List.map_nil]);first | done | rfl | (simp only [List.length_drop,List.length_take];rfl)) ?_;(with_reducible refine (spec_l19Can.calls k1 _ _ l0 _ _ x6_1 ((rd_T32 l1 x7_1).f0) ((rd_T32 l1 x7_1).f1) true _ ?side1 ?side2 ?side3 ?side4 A9.out).mono ?_);(case side1=>repeat (first | exact (Kd.C_below HR0.out HB.out) | (with_reducible refine Kd.C_alloc ?_ _) | (with_reducible refine Kd.C_drewN ?_ _) | (with_reducible refine Kd.C_drew ?_)));(case side2=>exact HC0.out);(case side3=>repeat (first | exact (Kd.R_reads' HO_6.out).2.2 | (with_reducible refine Kd.C_alloc ?_ _) | (with_reducible refine Kd.C_drewN ?_ _) | (with_reducible refine Kd.C_drew ?_)));(case side4=>exact (Kd.R_reads' HO_6.out).2.1);rintro e w19 ⟨rfl,hb⟩;refine ⟨_,rfl,?_⟩;have n0_:=Aside0.mk (Kd.R_below (by (with_reducible repeat (first | apply Kd.R_alloc | apply Kd.R_drewN | apply Kd.R_drew));exact HO_6.out) hb);have n1_:=Aside0.mk (below_step (by repeat (first | (with_reducible first | exact HB.out | apply below_alloc | apply pw_below_drewN | apply below_drew1) | exact HB.out)) hb);clear HO_6;clear HB;have HO_6:=n0_;have HB:=n1_;clear n0_ n1_;(try clear hb);(try clear hb2);(try clear hk);(try clear hi)))
             have n0_:=Aside0.mk (Kd.R_drew HO_6.out)
             have n1_:=Aside0.mk (below_drew1 HB.out)
             clear HO_6
             clear HB
             have HO_6:=n0_
             have HB:=n1_
             clear n0_ n1_
             have p162:0 ≤ (x7_1:Int):=of_decide_eq_true (by first | (with_reducible assumption) | assumption)
             have q162:x7_1 < (l1.length:Int):=of_decide_eq_true (by first | (with_reducible assumption) | assumption)
             obtain ⟨ad162,e162,hx162_0,hx162_1⟩:=at_T32 HR1.out x7_1 p162 q162
             have hw162_1:=hx162_1
             have hw162_0:=hx162_0
             obtain rfl:ad160 = ad162:=(by injection e162)
             replace hx162_0:=(HB.out.cell (World.block_lt_of_cell? w _ hx162_0)).trans hx162_0
             replace hx162_1:=(HB.out.cell (World.block_lt_of_cell? w _ hx162_1)).trans hx162_1
             replace p162:=eq_true p162
             replace q162:=eq_true q162
             have p163:0 ≤ (x7_1:Int):=of_decide_eq_true (by first | (with_reducible assumption) | assumption)
             have q163:x7_1 < (l1.length:Int):=of_decide_eq_true (by first | (with_reducible assumption) | assumption)
             obtain ⟨ad163,e163,hx163_0,hx163_1⟩:=at_T32 HR1.out x7_1 p163 q163
             have hw163_1:=hx163_1
             have hw163_0:=hx163_0
             obtain rfl:ad160 = ad163:=(by injection e163)
             replace hx163_0:=(HB.out.cell (World.block_lt_of_cell? w _ hx163_0)).trans hx163_0
             replace hx163_1:=(HB.out.cell (World.block_lt_of_cell? w _ hx163_1)).trans hx163_1
             replace p163:=eq_true p163
             replace q163:=eq_true q163
             have p164:0 ≤ (((rd_T32 l1 x7_1).f0):Int):=of_decide_eq_true (by first | (with_reducible assumption) | assumption)
             have q164:((rd_T32 l1 x7_1).f0) < (x6_1.length:Int):=of_decide_eq_true (by first | (with_reducible assumption) | assumption)
             obtain ⟨ad164,e164,hx164_0⟩:=Kd.at_int (Kd.R_reads' HO_6.out).2.2 ((rd_T32 l1 x7_1).f0) p164 q164
             cases e164
             replace p164:=eq_true p164
             replace q164:=eq_true q164
             have p13:0 ≤ (((rd_T32 l1 x7_1).f0):Int):=of_decide_eq_true (by first | (with_reducible assumption) | assumption)
             have q13:(((rd_T32 l1 x7_1).f0):Int) < ((x6_1.length:Int):Int):=of_decide_eq_true (by first | (with_reducible assumption) | assumption)
             obtain ⟨go13,co13,eo13,gb13,gl13,cl13,HG13⟩:=Kd.R_form HO_6.out (by omega)
             (first | cases eo13 | (injection eo13 with ea_ en_ ec_;(first | subst ea_ | (injection ea_ with ea_;subst ea_));subst ec_;clear en_))
             have GB13:=Aside0.mk gb13
             have GG13:=Aside0.mk HG13
             clear gb13 gl13 HG13
             (first | simp only [add_plain] at hx164_0 | skip)
             obtain ⟨hx13_0,hf13_0⟩:=Kd.R_celln 0 HO_6.out (((rd_T32 l1 x7_1).f0):Int) p13 q13
             replace p13:=eq_true p13
             replace q13:=eq_true q13
             have HP21:=Kd.R_putn HO_6.out (((rd_T32 l1 x7_1).f0):Int) (wrap64 ((rd x6_1 ((rd_T32 l1 x7_1).f0)) + 1))
             rw [← Ny165.out] at HP21
             have HQ21:=Aside0.mk HP21
             clear HP21
             refine start_ (n:=17) (S:=fun w'=>w'.cell? (ad160.add ((x7_1).toNat * 2)) = some (.int .i64 ((rd_T32 l1 x7_1).f0))∧w'.cell? ⟨(ad160.add ((x7_1).toNat * 2)).block,(ad160.add ((x7_1).toNat * 2)).off + 1,none⟩ = some (.int .i64 ((rd_T32 l1 x7_1).f1))∧w'.cell? (ad160.add ((x7_1).toNat * 2)) = some (.int .i64 ((rd_T32 l1 x7_1).f0))∧w'.cell? ⟨(ad160.add ((x7_1).toNat * 2)).block,(ad160.add ((x7_1).toNat * 2)).off + 1,none⟩ = some (.int .i64 ((rd_T32 l1 x7_1).f1))∧w'.cell? (⟨go13,(((rd_T32 l1 x7_1).f0)).toNat,none⟩:Addr) = some (.int .i64 (rd x6_1 ((rd_T32 l1 x7_1).f0)))) (ds:=[16]) #[false,false,false,false,false,false,false,false,false,false,false,false,false,false,false,false,false] (by kernel_rfl) rfl rfl ⟨((HB.out.cell (World.block_lt_of_cell? w _ hw162_0)).trans hw162_0),((HB.out.cell (World.block_lt_of_cell? w _ hw162_1)).trans hw162_1),((HB.out.cell (World.block_lt_of_cell? w _ hw163_0)).trans hw163_0),((HB.out.cell (World.block_lt_of_cell? w _ hw163_1)).trans hw163_1),hx164_0⟩ (fun hHeld=>?_);refine with_tabW spec_l19At.tab7 spec_l19At.bits7 (fun HT_ HW_=>?_)
             generalize w19.drew = w20 at HO_6 HB GG13 HQ21 hf13_0 hx13_0 hx162_0 hx162_1 hx163_0 hx163_1 hx164_0 hHeld ⊢
             refine pure_ (i:=0) (N:=some 25) (v:=?_) (a':=?_) #[true,false,false,false,false,false,false,false,false,false,false,false,false,false,false,false,false] rfl rfl (any_of HT_.out (by kernel_rfl)) (fun _ _ _ h=>h) (Or.inl ⟨by rfl,?_⟩) ?_ ?_
             rotate_left;·intro w';go_simp;with_reducible rfl
             rotate_left;·simp only [Act.put,List.setIfInBounds_toArray,List.set_cons_zero,List.set_cons_succ,i64_w,i32_w];rfl
             refine pure_ (i:=1) (N:=some 26) (v:=?_) (a':=?_) #[true,true,false,false,false,false,false,false,false,false,false,false,false,false,false,false,false] rfl rfl (any_of HT_.out (by kernel_rfl)) (fun _ _ _ h=>h) (Or.inl ⟨by rfl,?_⟩) ?_ ?_
             rotate_left;·intro w';go_simp;with_reducible rfl
             rotate_left;·simp only [Act.put,List.setIfInBounds_toArray,List.set_cons_zero,List.set_cons_succ,i64_w,i32_w];rfl
             refine pure_ (i:=2) (N:=some 27) (v:=?_) (a':=?_) #[true,true,true,false,false,false,false,false,false,false,false,false,false,false,false,false,false] rfl rfl (any_of HT_.out (by kernel_rfl)) (fun _ _ _ h=>h) (Or.inl ⟨by rfl,?_⟩) ?_ ?_
             rotate_left;·intro w';go_simp;with_reducible rfl
             rotate_left;·simp only [Act.put,List.setIfInBounds_toArray,List.set_cons_zero,List.set_cons_succ,i64_w,i32_w];rfl
             refine pure_ (i:=3) (N:=some 28) (v:=?_) (a':=?_) #[true,true,true,true,false,false,false,false,false,false,false,false,false,false,false,false,false] rfl rfl (any_of HT_.out (by kernel_rfl)) (fun _ _ _ h=>h) (Or.inl ⟨by rfl,?_⟩) ?_ ?_
             rotate_left;·intro w';go_simp;with_reducible rfl
             rotate_left;·simp only [Act.put,List.setIfInBounds_toArray,List.set_cons_zero,List.set_cons_succ,i64_w,i32_w];rfl
             refine pure_ (i:=4) (N:=some 29) (v:=?_) (a':=?_) #[true,true,true,true,true,false,false,false,false,false,false,false,false,false,false,false,false] rfl rfl (any_of HT_.out (by kernel_rfl)) (fun _ _ _ h=>h) (Or.inl ⟨by rfl,?_⟩) ?_ ?_
             rotate_left;·intro w';go_simp;with_reducible rfl
             rotate_left;·simp only [Act.put,List.setIfInBounds_toArray,List.set_cons_zero,List.set_cons_succ,i64_w,i32_w];rfl
             refine pure_ (i:=6) (N:=some 31) (v:=?_) (a':=?_) #[true,true,true,true,true,false,true,false,false,false,false,false,false,false,false,false,false] rfl rfl (any_of HT_.out (by kernel_rfl)) (fun _ _ _ h=>h) (Or.inl ⟨by rfl,?_⟩) ?_ ?_
             rotate_left;·intro w';go_simp;with_reducible rfl
             rotate_left;·simp only [Act.put,List.setIfInBounds_toArray,List.set_cons_zero,List.set_cons_succ,i64_w,i32_w];rfl
             refine pure_ (i:=7) (N:=some 32) (v:=?_) (a':=?_) #[true,true,true,true,true,false,true,true,false,false,false,false,false,false,false,false,false] rfl rfl (any_of HT_.out (by kernel_rfl)) (fun _ _ _ h=>h) (Or.inl ⟨by rfl,?_⟩) ?_ ?_
             rotate_left;·intro w';go_simp;with_reducible rfl
             rotate_left;·simp only [Act.put,List.setIfInBounds_toArray,List.set_cons_zero,List.set_cons_succ,i64_w,i32_w];rfl
             refine pure_ (i:=8) (N:=some 33) (v:=?_) (a':=?_) #[true,true,true,true,true,false,true,true,true,false,false,false,false,false,false,false,false] rfl rfl (any_of HT_.out (by kernel_rfl)) (fun _ _ _ h=>h) (Or.inl ⟨by rfl,?_⟩) ?_ ?_
             rotate_left;·intro w';go_simp;with_reducible rfl
             rotate_left;·simp only [Act.put,List.setIfInBounds_toArray,List.set_cons_zero,List.set_cons_succ,i64_w,i32_w];rfl
             refine pure_ (i:=9) (N:=some 34) (v:=?_) (a':=?_) #[true,true,true,true,true,false,true,true,true,true,false,false,false,false,false,false,false] rfl rfl (any_of HT_.out (by kernel_rfl)) (fun _ _ _ h=>h) (Or.inl ⟨by rfl,?_⟩) ?_ ?_
             rotate_left;·intro w';go_simp;with_reducible rfl
             rotate_left;·simp only [Act.put,List.setIfInBounds_toArray,List.set_cons_zero,List.set_cons_succ,i64_w,i32_w];rfl
             refine pure_ (i:=10) (N:=some 35) (v:=?_) (a':=?_) #[true,true,true,true,true,false,true,true,true,true,true,false,false,false,false,false,false] rfl rfl (any_of HT_.out (by kernel_rfl)) (fun _ _ _ h=>h) (Or.inl ⟨by rfl,?_⟩) ?_ ?_
             rotate_left;·intro w';go_simp;with_reducible rfl
             rotate_left;·simp only [Act.put,List.setIfInBounds_toArray,List.set_cons_zero,List.set_cons_succ,i64_w,i32_w];rfl
             refine take_ (i:=5) (N:=some 30) (v:=?_) (a':=?_) #[true,true,true,true,true,true,true,true,true,true,true,false,false,false,false,false,false] rfl rfl (take_ofW HT_.out HW_.out (by kernel_rfl)) (fun _ _ _ h=>h) (Or.inl ⟨by rfl,?_⟩) hHeld ?_ ?_
             rotate_left;·rintro w' ⟨s0,s1,s2,s3,s4⟩;go_simp;with_reducible rfl
             rotate_left;·simp only [Act.put,List.setIfInBounds_toArray,List.set_cons_zero,List.set_cons_succ,i64_w,i32_w];rfl
             refine take_ (i:=11) (N:=some 36) (v:=?_) (a':=?_) #[true,true,true,true,true,true,true,true,true,true,true,true,false,false,false,false,false] rfl rfl (take_ofW HT_.out HW_.out (by kernel_rfl)) (fun _ _ _ h=>h) (Or.inl ⟨by rfl,?_⟩) hHeld ?_ ?_
             rotate_left;·rintro w' ⟨s0,s1,s2,s3,s4⟩;go_simp;with_reducible rfl
             rotate_left;·simp only [Act.put,List.setIfInBounds_toArray,List.set_cons_zero,List.set_cons_succ,i64_w,i32_w];rfl
             refine pure_ (i:=12) (N:=some 37) (v:=?_) (a':=?_) #[true,true,true,true,true,true,true,true,true,true,true,true,true,false,false,false,false] rfl rfl (any_of HT_.out (by kernel_rfl)) (fun _ _ _ h=>h) (Or.inl ⟨by rfl,?_⟩) ?_ ?_
             rotate_left;·intro w';go_simp;with_reducible rfl
             rotate_left;·simp only [Act.put,List.setIfInBounds_toArray,List.set_cons_zero,List.set_cons_succ,i64_w,i32_w];rfl
             refine take_ (i:=13) (N:=some 38) (v:=?_) (a':=?_) #[true,true,true,true,true,true,true,true,true,true,true,true,true,true,false,false,false] rfl rfl (take_ofW HT_.out HW_.out (by kernel_rfl)) (fun _ _ _ h=>h) (Or.inl ⟨by rfl,?_⟩) hHeld ?_ ?_
             rotate_left;·rintro w' ⟨s0,s1,s2,s3,s4⟩;go_simp;with_reducible rfl
             rotate_left;·simp only [Act.put,List.setIfInBounds_toArray,List.set_cons_zero,List.set_cons_succ,i64_w,i32_w];rfl
             refine pure_ (i:=14) (N:=some 39) (v:=?_) (a':=?_) #[true,true,true,true,true,true,true,true,true,true,true,true,true,true,true,false,false] rfl rfl (any_of HT_.out (by kernel_rfl)) (fun _ _ _ h=>h) (Or.inl ⟨by rfl,?_⟩) ?_ ?_
             rotate_left;·intro w';go_simp;with_reducible rfl
             rotate_left;·simp only [Act.put,List.setIfInBounds_toArray,List.set_cons_zero,List.set_cons_succ,i64_w,i32_w];rfl
             refine pure_ (i:=15) (N:=some 40) (v:=?_) (a':=?_) #[true,true,true,true,true,true,true,true,true,true,true,true,true,true,true,true,false] rfl rfl (any_of HT_.out (by kernel_rfl)) (fun _ _ _ h=>h) (Or.inl ⟨by rfl,?_⟩) ?_ ?_
             rotate_left;·intro w';go_simp;with_reducible rfl
             rotate_left;·simp only [Act.put,List.setIfInBounds_toArray,List.set_cons_zero,List.set_cons_succ,i64_w,i32_w];rfl
             refine last_ (i:=16) (N:=none) #[true,true,true,true,true,true,true,true,true,true,true,true,true,true,true,true,true] rfl rfl (one_of HT_.out (by kernel_rfl)) (by decide) (fun K hK=>?_)
             refine skip_ (w1:=?_) (by rfl) rfl ?_ ?_
             rotate_left
             ·go_simp
              rfl
             refine hK.out _ _ ?_
             clear hK K
             refine done_ (done_of HT_.out (by kernel_rfl)) ?_
             have p166:0 ≤ (x7_1:Int):=of_decide_eq_true (by first | (with_reducible assumption) | assumption)
             have q166:x7_1 < (l1.length:Int):=of_decide_eq_true (by first | (with_reducible assumption) | assumption)
             obtain ⟨ad166,e166,hx166_0,hx166_1⟩:=at_T32 HR1.out x7_1 p166 q166
             obtain rfl:ad160 = ad166:=(by injection e166)
             have hn166_0:ad160.block ≠ go13:=Nat.ne_of_lt (Nat.lt_of_lt_of_le (by have:=World.block_lt_of_cell? _ _ hx166_0;first | rwa [add_block] at this | exact this) GB13.out)
             replace hx166_0:=(HB.out.cell (World.block_lt_of_cell? w _ hx166_0)).trans hx166_0
             replace hx166_1:=(HB.out.cell (World.block_lt_of_cell? w _ hx166_1)).trans hx166_1
             replace hx166_0:=(cell_far (p:=⟨go13,(((rd_T32 l1 x7_1).f0):Int).toNat,none⟩) (by first | (rw [add_block];exact hn166_0) | (show (Addr.add _ _).block ≠ _;rw [add_block];exact hn166_0) | exact hn166_0) (.int .i64 (wrap64 ((rd x6_1 ((rd_T32 l1 x7_1).f0)) + 1)))).trans hx166_0
             replace hx166_1:=(cell_far (p:=⟨go13,(((rd_T32 l1 x7_1).f0):Int).toNat,none⟩) (by first | (rw [add_block];exact hn166_0) | (show (Addr.add _ _).block ≠ _;rw [add_block];exact hn166_0) | exact hn166_0) (.int .i64 (wrap64 ((rd x6_1 ((rd_T32 l1 x7_1).f0)) + 1)))).trans hx166_1
             clear hn166_0
             replace p166:=eq_true p166
             replace q166:=eq_true q166
             try go_wp2
             have n0_:Aside0 (Kd.R (Kd.int .i64) 3 (w20.setCell ⟨go13,(((rd_T32 l1 x7_1).f0):Int).toNat,none⟩ (.int .i64 (wrap64 ((rd x6_1 ((rd_T32 l1 x7_1).f0)) + 1)))) w.heap.size (fun _=>True) (.slice (some ⟨go13,0,none⟩) x6_1.length co18) y165):=⟨by (with_reducible repeat (first | apply Kd.R_alloc | apply Kd.R_drewN | apply Kd.R_drew));exact HQ21.out⟩
             have n1_:Aside0 (Below w.heap.size w (w20.setCell ⟨go13,(((rd_T32 l1 x7_1).f0):Int).toNat,none⟩ (.int .i64 (wrap64 ((rd x6_1 ((rd_T32 l1 x7_1).f0)) + 1))))):=⟨by repeat (first | (with_reducible first | exact HB.out | apply below_alloc | apply pw_below_drewN | apply below_drew1 | refine below_set ?_ GB13.out) | exact HB.out)⟩
             (try clear HO_6)
             (try clear HB)
             generalize (w20.setCell ⟨go13,(((rd_T32 l1 x7_1).f0):Int).toNat,none⟩ (.int .i64 (wrap64 ((rd x6_1 ((rd_T32 l1 x7_1).f0)) + 1)))) = w22 at n0_ n1_ ⊢
             have HO_6:=n0_
             have HB:=n1_
             clear n0_ n1_
             have n0_:=Aside0.mk (Kd.R_drew HO_6.out)
             have n1_:=Aside0.mk (below_drew1 HB.out)
             clear HO_6
             clear HB
             have HO_6:=n0_
             have HB:=n1_
             clear n0_ n1_
             have p167:0 ≤ (x7_1:Int):=of_decide_eq_true (by first | (with_reducible assumption) | assumption)
             have q167:x7_1 < (l1.length:Int):=of_decide_eq_true (by first | (with_reducible assumption) | assumption)
             obtain ⟨ad167,e167,hx167_0,hx167_1⟩:=at_T32 HR1.out x7_1 p167 q167
             have hw167_1:=hx167_1
             have hw167_0:=hx167_0
             obtain rfl:ad160 = ad167:=(by injection e167)
             replace hx167_0:=(HB.out.cell (World.block_lt_of_cell? w _ hx167_0)).trans hx167_0
             replace hx167_1:=(HB.out.cell (World.block_lt_of_cell? w _ hx167_1)).trans hx167_1
             replace p167:=eq_true p167
             replace q167:=eq_true q167
             have p168:0 ≤ (x7_1:Int):=of_decide_eq_true (by first | (with_reducible assumption) | assumption)
             have q168:x7_1 < (l1.length:Int):=of_decide_eq_true (by first | (with_reducible assumption) | assumption)
             obtain ⟨ad168,e168,hx168_0,hx168_1⟩:=at_T32 HR1.out x7_1 p168 q168
             have hw168_1:=hx168_1
             have hw168_0:=hx168_0
             obtain rfl:ad160 = ad168:=(by injection e168)
             replace hx168_0:=(HB.out.cell (World.block_lt_of_cell? w _ hx168_0)).trans hx168_0
             replace hx168_1:=(HB.out.cell (World.block_lt_of_cell? w _ hx168_1)).trans hx168_1
             replace p168:=eq_true p168
             replace q168:=eq_true q168
             have p169:0 ≤ (((rd_T32 l1 x7_1).f1):Int):=of_decide_eq_true (by first | (with_reducible assumption) | assumption)
             have q169:((rd_T32 l1 x7_1).f1) < (y165.length:Int):=(by have h_:(((rd_T32 l1 x7_1).f1):Int) < ((x6_1.length:Int):Int):=of_decide_eq_true (by first | (with_reducible assumption) | assumption);first | (have e_:=(Kd.R_reads' HO_6.out).1;omega) | simpa only [Ny165.out,List.length_set] using h_)
             have ql169:((((rd_T32 l1 x7_1).f1):Int) < ((x6_1.length:Int):Int)) = True:=eq_true (of_decide_eq_true (by first | (with_reducible assumption) | assumption))
             obtain ⟨ad169,e169,hx169_0⟩:=Kd.at_int (Kd.R_reads' HO_6.out).2.2 ((rd_T32 l1 x7_1).f1) p169 q169
             obtain rfl:(⟨go13,0,none⟩:Addr) = ad169:=(by injection e169)
             (first | simp only [add_plain] at hx169_0 | simp only [add_at] at hx169_0 | simp only [Addr.add,Nat.zero_add] at hx169_0 | skip)
             replace p169:=eq_true p169
             replace q169:=eq_true q169
             have p17:0 ≤ (((rd_T32 l1 x7_1).f1):Int):=of_decide_eq_true (by first | (with_reducible assumption) | assumption)
             have q17:(((rd_T32 l1 x7_1).f1):Int) < ((x6_1.length:Int):Int):=of_decide_eq_true (by first | (with_reducible assumption) | assumption)
             obtain ⟨hx17_0,hf17_0⟩:=Kd.R_celln 0 HO_6.out (((rd_T32 l1 x7_1).f1):Int) p17 q17
             replace p17:=eq_true p17
             replace q17:=eq_true q17
             have HP24:=Kd.R_putn HO_6.out (((rd_T32 l1 x7_1).f1):Int) (wrap64 ((rd y165 ((rd_T32 l1 x7_1).f1)) + 1))
             rw [← Ny170.out] at HP24
             have HQ24:=Aside0.mk HP24
             clear HP24
             refine start_ (n:=17) (S:=fun w'=>w'.cell? (ad160.add ((x7_1).toNat * 2)) = some (.int .i64 ((rd_T32 l1 x7_1).f0))∧w'.cell? ⟨(ad160.add ((x7_1).toNat * 2)).block,(ad160.add ((x7_1).toNat * 2)).off + 1,none⟩ = some (.int .i64 ((rd_T32 l1 x7_1).f1))∧w'.cell? (ad160.add ((x7_1).toNat * 2)) = some (.int .i64 ((rd_T32 l1 x7_1).f0))∧w'.cell? ⟨(ad160.add ((x7_1).toNat * 2)).block,(ad160.add ((x7_1).toNat * 2)).off + 1,none⟩ = some (.int .i64 ((rd_T32 l1 x7_1).f1))∧w'.cell? ⟨go13,(((rd_T32 l1 x7_1).f1)).toNat,none⟩ = some (.int .i64 (rd y165 ((rd_T32 l1 x7_1).f1)))) (ds:=[16]) #[false,false,false,false,false,false,false,false,false,false,false,false,false,false,false,false,false] (by kernel_rfl) rfl rfl ⟨((HB.out.cell (World.block_lt_of_cell? w _ hw167_0)).trans hw167_0),((HB.out.cell (World.block_lt_of_cell? w _ hw167_1)).trans hw167_1),((HB.out.cell (World.block_lt_of_cell? w _ hw168_0)).trans hw168_0),((HB.out.cell (World.block_lt_of_cell? w _ hw168_1)).trans hw168_1),hx169_0⟩ (fun hHeld=>?_);refine with_tabW spec_l19At.tab9 spec_l19At.bits9 (fun HT_ HW_=>?_)
             generalize w22.drew = w23 at HO_6 HB HQ21 HQ24 hf17_0 hx167_0 hx167_1 hx168_0 hx168_1 hx169_0 hx17_0 hHeld ⊢
             refine pure_ (i:=0) (N:=some 47) (v:=?_) (a':=?_) #[true,false,false,false,false,false,false,false,false,false,false,false,false,false,false,false,false] rfl rfl (any_of HT_.out (by kernel_rfl)) (fun _ _ _ h=>h) (Or.inl ⟨by rfl,?_⟩) ?_ ?_
             rotate_left;·intro w';go_simp;with_reducible rfl
             rotate_left;·simp only [Act.put,List.setIfInBounds_toArray,List.set_cons_zero,List.set_cons_succ,i64_w,i32_w];rfl
             refine pure_ (i:=1) (N:=some 48) (v:=?_) (a':=?_) #[true,true,false,false,false,false,false,false,false,false,false,false,false,false,false,false,false] rfl rfl (any_of HT_.out (by kernel_rfl)) (fun _ _ _ h=>h) (Or.inl ⟨by rfl,?_⟩) ?_ ?_
             rotate_left;·intro w';go_simp;with_reducible rfl
             rotate_left;·simp only [Act.put,List.setIfInBounds_toArray,List.set_cons_zero,List.set_cons_succ,i64_w,i32_w];rfl
             refine pure_ (i:=2) (N:=some 49) (v:=?_) (a':=?_) #[true,true,true,false,false,false,false,false,false,false,false,false,false,false,false,false,false] rfl rfl (any_of HT_.out (by kernel_rfl)) (fun _ _ _ h=>h) (Or.inl ⟨by rfl,?_⟩) ?_ ?_
             rotate_left;·intro w';go_simp;with_reducible rfl
             rotate_left;·simp only [Act.put,List.setIfInBounds_toArray,List.set_cons_zero,List.set_cons_succ,i64_w,i32_w];rfl
             refine pure_ (i:=3) (N:=some 50) (v:=?_) (a':=?_) #[true,true,true,true,false,false,false,false,false,false,false,false,false,false,false,false,false] rfl rfl (any_of HT_.out (by kernel_rfl)) (fun _ _ _ h=>h) (Or.inl ⟨by rfl,?_⟩) ?_ ?_
             rotate_left;·intro w';go_simp;with_reducible rfl
             rotate_left;·simp only [Act.put,List.setIfInBounds_toArray,List.set_cons_zero,List.set_cons_succ,i64_w,i32_w];rfl
             refine pure_ (i:=4) (N:=some 51) (v:=?_) (a':=?_) #[true,true,true,true,true,false,false,false,false,false,false,false,false,false,false,false,false] rfl rfl (any_of HT_.out (by kernel_rfl)) (fun _ _ _ h=>h) (Or.inl ⟨by rfl,?_⟩) ?_ ?_
             rotate_left;·intro w';go_simp;with_reducible rfl
             rotate_left;·simp only [Act.put,List.setIfInBounds_toArray,List.set_cons_zero,List.set_cons_succ,i64_w,i32_w];rfl
             refine pure_ (i:=6) (N:=some 53) (v:=?_) (a':=?_) #[true,true,true,true,true,false,true,false,false,false,false,false,false,false,false,false,false] rfl rfl (any_of HT_.out (by kernel_rfl)) (fun _ _ _ h=>h) (Or.inl ⟨by rfl,?_⟩) ?_ ?_
             rotate_left;·intro w';go_simp;with_reducible rfl
             rotate_left;·simp only [Act.put,List.setIfInBounds_toArray,List.set_cons_zero,List.set_cons_succ,i64_w,i32_w];rfl
             refine pure_ (i:=7) (N:=some 54) (v:=?_) (a':=?_) #[true,true,true,true,true,false,true,true,false,false,false,false,false,false,false,false,false] rfl rfl (any_of HT_.out (by kernel_rfl)) (fun _ _ _ h=>h) (Or.inl ⟨by rfl,?_⟩) ?_ ?_
             rotate_left;·intro w';go_simp;with_reducible rfl
             rotate_left;·simp only [Act.put,List.setIfInBounds_toArray,List.set_cons_zero,List.set_cons_succ,i64_w,i32_w];rfl
             refine pure_ (i:=8) (N:=some 55) (v:=?_) (a':=?_) #[true,true,true,true,true,false,true,true,true,false,false,false,false,false,false,false,false] rfl rfl (any_of HT_.out (by kernel_rfl)) (fun _ _ _ h=>h) (Or.inl ⟨by rfl,?_⟩) ?_ ?_
             rotate_left;·intro w';go_simp;with_reducible rfl
             rotate_left;·simp only [Act.put,List.setIfInBounds_toArray,List.set_cons_zero,List.set_cons_succ,i64_w,i32_w];rfl
             refine pure_ (i:=9) (N:=some 56) (v:=?_) (a':=?_) #[true,true,true,true,true,false,true,true,true,true,false,false,false,false,false,false,false] rfl rfl (any_of HT_.out (by kernel_rfl)) (fun _ _ _ h=>h) (Or.inl ⟨by rfl,?_⟩) ?_ ?_
             rotate_left;·intro w';go_simp;with_reducible rfl
             rotate_left;·simp only [Act.put,List.setIfInBounds_toArray,List.set_cons_zero,List.set_cons_succ,i64_w,i32_w];rfl
             refine pure_ (i:=10) (N:=some 57) (v:=?_) (a':=?_) #[true,true,true,true,true,false,true,true,true,true,true,false,false,false,false,false,false] rfl rfl (any_of HT_.out (by kernel_rfl)) (fun _ _ _ h=>h) (Or.inl ⟨by rfl,?_⟩) ?_ ?_
             rotate_left;·intro w';go_simp;with_reducible rfl
             rotate_left;·simp only [Act.put,List.setIfInBounds_toArray,List.set_cons_zero,List.set_cons_succ,i64_w,i32_w];rfl
             refine take_ (i:=5) (N:=some 52) (v:=?_) (a':=?_) #[true,true,true,true,true,true,true,true,true,true,true,false,false,false,false,false,false] rfl rfl (take_ofW HT_.out HW_.out (by kernel_rfl)) (fun _ _ _ h=>h) (Or.inl ⟨by rfl,?_⟩) hHeld ?_ ?_
             rotate_left;·rintro w' ⟨s0,s1,s2,s3,s4⟩;go_simp;with_reducible rfl
             rotate_left;·simp only [Act.put,List.setIfInBounds_toArray,List.set_cons_zero,List.set_cons_succ,i64_w,i32_w];rfl
             refine take_ (i:=11) (N:=some 58) (v:=?_) (a':=?_) #[true,true,true,true,true,true,true,true,true,true,true,true,false,false,false,false,false] rfl rfl (take_ofW HT_.out HW_.out (by kernel_rfl)) (fun _ _ _ h=>h) (Or.inl ⟨by rfl,?_⟩) hHeld ?_ ?_
             rotate_left;·rintro w' ⟨s0,s1,s2,s3,s4⟩;go_simp;with_reducible rfl
             rotate_left;·simp only [Act.put,List.setIfInBounds_toArray,List.set_cons_zero,List.set_cons_succ,i64_w,i32_w];rfl
             refine pure_ (i:=12) (N:=some 59) (v:=?_) (a':=?_) #[true,true,true,true,true,true,true,true,true,true,true,true,true,false,false,false,false] rfl rfl (any_of HT_.out (by kernel_rfl)) (fun _ _ _ h=>h) (Or.inl ⟨by rfl,?_⟩) ?_ ?_
             rotate_left;·intro w';go_simp;with_reducible rfl
             rotate_left;·simp only [Act.put,List.setIfInBounds_toArray,List.set_cons_zero,List.set_cons_succ,i64_w,i32_w];rfl
             refine take_ (i:=13) (N:=some 60) (v:=?_) (a':=?_) #[true,true,true,true,true,true,true,true,true,true,true,true,true,true,false,false,false] rfl rfl (take_ofW HT_.out HW_.out (by kernel_rfl)) (fun _ _ _ h=>h) (Or.inl ⟨by rfl,?_⟩) hHeld ?_ ?_
             rotate_left;·rintro w' ⟨s0,s1,s2,s3,s4⟩;go_simp;with_reducible rfl
             rotate_left;·simp only [Act.put,List.setIfInBounds_toArray,List.set_cons_zero,List.set_cons_succ,i64_w,i32_w];rfl
             refine pure_ (i:=14) (N:=some 61) (v:=?_) (a':=?_) #[true,true,true,true,true,true,true,true,true,true,true,true,true,true,true,false,false] rfl rfl (any_of HT_.out (by kernel_rfl)) (fun _ _ _ h=>h) (Or.inl ⟨by rfl,?_⟩) ?_ ?_
             rotate_left;·intro w';go_simp;with_reducible rfl
             rotate_left;·simp only [Act.put,List.setIfInBounds_toArray,List.set_cons_zero,List.set_cons_succ,i64_w,i32_w];rfl
             refine pure_ (i:=15) (N:=some 62) (v:=?_) (a':=?_) #[true,true,true,true,true,true,true,true,true,true,true,true,true,true,true,true,false] rfl rfl (any_of HT_.out (by kernel_rfl)) (fun _ _ _ h=>h) (Or.inl ⟨by rfl,?_⟩) ?_ ?_
             rotate_left;·intro w';go_simp;with_reducible rfl
             rotate_left;·simp only [Act.put,List.setIfInBounds_toArray,List.set_cons_zero,List.set_cons_succ,i64_w,i32_w];rfl
             refine last_ (i:=16) (N:=none) #[true,true,true,true,true,true,true,true,true,true,true,true,true,true,true,true,true] rfl rfl (one_of HT_.out (by kernel_rfl)) (by decide) (fun K hK=>?_)
             refine skip_ (w1:=?_) (by rfl) rfl ?_ ?_
             rotate_left
             ·go_simp
              rfl
             refine hK.out _ _ ?_
             clear hK K
             refine done_ (done_of HT_.out (by kernel_rfl)) ?_
             try go_wp2
             go_roundg k1
             case measure=>have:=HK1.out;omega
             case rel=>exact ⟨(y170),(wrap64 (x7_1 + 1)),(by first | rfl | (simp;done) | (simp [*];done)),H',⟨by have:=HK1.out;omega⟩,⟨by (with_reducible repeat (first | apply Kd.R_alloc | apply Kd.R_drewN | apply Kd.R_drew));exact HQ24.out⟩,⟨by repeat (first | (with_reducible first | exact HB.out | apply below_alloc | apply pw_below_drewN | apply below_drew1 | refine below_set ?_ GB13.out) | exact HB.out)⟩⟩
            ·rw [if_neg c16] at H
             exact absurd H (by simp)
           ·rw [if_neg c15] at H
            exact absurd H (by simp)
          ·rw [if_neg c14] at H
           have c14b0:decide (0 ≤ ((rd_T32 l1 x7_1).f1)) = false:=decide_eq_false c14
           clear c14
           have H':=Aside0.mk H
           clear H
           have p160:0 ≤ (x7_1:Int):=of_decide_eq_true (by first | (with_reducible assumption) | assumption)
           have q160:x7_1 < (l1.length:Int):=of_decide_eq_true (by first | (with_reducible assumption) | assumption)
           obtain ⟨ad160,e160,hx160_0,hx160_1⟩:=at_T32 HR1.out x7_1 p160 q160
           cases e160
           replace hx160_0:=(HB.out.cell (World.block_lt_of_cell? w _ hx160_0)).trans hx160_0
           replace hx160_1:=(HB.out.cell (World.block_lt_of_cell? w _ hx160_1)).trans hx160_1
           replace p160:=eq_true p160
           replace q160:=eq_true q160
           obtain ⟨Ao25,co25,eo25⟩:=Kd.R_slice HO_6.out
           subst eo25
           try go_wp2_with (first | ((with_reducible refine gate_callee (f:=64) rfl ?_);refine goesL_ (some 23) rfl rfl Try.func64 (by kernel_rfl) rfl #[.slice A0 l0.length c0,.slice Ao25 x6_1.length co25,.agg #[.int .i64 ((rd_T32 l1 x7_1).f0),.int .i64 ((rd_T32 l1 x7_1).f1)]] rfl (by (try simp only [List.map_toArray,List.map_cons,List.map_nil]);first | done | rfl | (simp only [List.length_drop,List.length_take];rfl)) ?_;(with_reducible refine (spec_l19Can.calls k1 _ _ l0 _ _ x6_1 ((rd_T32 l1 x7_1).f0) ((rd_T32 l1 x7_1).f1) true _ ?side1 ?side2 ?side3 ?side4 A9.out).mono ?_);(case side1=>repeat (first | exact (Kd.C_below HR0.out HB.out) | (with_reducible refine Kd.C_alloc ?_ _) | (with_reducible refine Kd.C_drewN ?_ _) | (with_reducible refine Kd.C_drew ?_)));(case side2=>exact HC0.out);(case side3=>repeat (first | exact (Kd.R_reads' HO_6.out).2.2 | (with_reducible refine Kd.C_alloc ?_ _) | (with_reducible refine Kd.C_drewN ?_ _) | (with_reducible refine Kd.C_drew ?_)));(case side4=>exact (Kd.R_reads' HO_6.out).2.1);rintro e w26 ⟨rfl,hb⟩;refine ⟨_,rfl,?_⟩;have n0_:=Aside0.mk (Kd.R_below (by (with_reducible repeat (first | apply Kd.R_alloc | apply Kd.R_drewN | apply Kd.R_drew));exact HO_6.out) hb);have n1_:=Aside0.mk (below_step (by repeat (first | (with_reducible first | exact HB.out | apply below_alloc | apply pw_below_drewN | apply below_drew1) | exact HB.out)) hb);clear HO_6;clear HB;have HO_6:=n0_;have HB:=n1_;clear n0_ n1_;(try clear hb);(try clear hb2);(try clear hk);(try clear hi)))
           have n0_:=Aside0.mk (Kd.R_drew HO_6.out)
           have n1_:=Aside0.mk (below_drew1 HB.out)
           clear HO_6
           clear HB
           have HO_6:=n0_
           have HB:=n1_
           clear n0_ n1_
           have p162:0 ≤ (x7_1:Int):=of_decide_eq_true (by first | (with_reducible assumption) | assumption)
           have q162:x7_1 < (l1.length:Int):=of_decide_eq_true (by first | (with_reducible assumption) | assumption)
           obtain ⟨ad162,e162,hx162_0,hx162_1⟩:=at_T32 HR1.out x7_1 p162 q162
           have hw162_1:=hx162_1
           have hw162_0:=hx162_0
           obtain rfl:ad160 = ad162:=(by injection e162)
           replace hx162_0:=(HB.out.cell (World.block_lt_of_cell? w _ hx162_0)).trans hx162_0
           replace hx162_1:=(HB.out.cell (World.block_lt_of_cell? w _ hx162_1)).trans hx162_1
           replace p162:=eq_true p162
           replace q162:=eq_true q162
           have p163:0 ≤ (x7_1:Int):=of_decide_eq_true (by first | (with_reducible assumption) | assumption)
           have q163:x7_1 < (l1.length:Int):=of_decide_eq_true (by first | (with_reducible assumption) | assumption)
           obtain ⟨ad163,e163,hx163_0,hx163_1⟩:=at_T32 HR1.out x7_1 p163 q163
           have hw163_1:=hx163_1
           have hw163_0:=hx163_0
           obtain rfl:ad160 = ad163:=(by injection e163)
           replace hx163_0:=(HB.out.cell (World.block_lt_of_cell? w _ hx163_0)).trans hx163_0
           replace hx163_1:=(HB.out.cell (World.block_lt_of_cell? w _ hx163_1)).trans hx163_1
           replace p163:=eq_true p163
           replace q163:=eq_true q163
           have p164:0 ≤ (((rd_T32 l1 x7_1).f0):Int):=of_decide_eq_true (by first | (with_reducible assumption) | assumption)
           have q164:((rd_T32 l1 x7_1).f0) < (x6_1.length:Int):=of_decide_eq_true (by first | (with_reducible assumption) | assumption)
           obtain ⟨ad164,e164,hx164_0⟩:=Kd.at_int (Kd.R_reads' HO_6.out).2.2 ((rd_T32 l1 x7_1).f0) p164 q164
           cases e164
           replace p164:=eq_true p164
           replace q164:=eq_true q164
           have p13:0 ≤ (((rd_T32 l1 x7_1).f0):Int):=of_decide_eq_true (by first | (with_reducible assumption) | assumption)
           have q13:(((rd_T32 l1 x7_1).f0):Int) < ((x6_1.length:Int):Int):=of_decide_eq_true (by first | (with_reducible assumption) | assumption)
           obtain ⟨go13,co13,eo13,gb13,gl13,cl13,HG13⟩:=Kd.R_form HO_6.out (by omega)
           (first | cases eo13 | (injection eo13 with ea_ en_ ec_;(first | subst ea_ | (injection ea_ with ea_;subst ea_));subst ec_;clear en_))
           have GB13:=Aside0.mk gb13
           have GG13:=Aside0.mk HG13
           clear gb13 gl13 HG13
           (first | simp only [add_plain] at hx164_0 | skip)
           obtain ⟨hx13_0,hf13_0⟩:=Kd.R_celln 0 HO_6.out (((rd_T32 l1 x7_1).f0):Int) p13 q13
           replace p13:=eq_true p13
           replace q13:=eq_true q13
           have HP28:=Kd.R_putn HO_6.out (((rd_T32 l1 x7_1).f0):Int) (wrap64 ((rd x6_1 ((rd_T32 l1 x7_1).f0)) + 1))
           rw [← Ny165.out] at HP28
           have HQ28:=Aside0.mk HP28
           clear HP28
           refine start_ (n:=17) (S:=fun w'=>w'.cell? (ad160.add ((x7_1).toNat * 2)) = some (.int .i64 ((rd_T32 l1 x7_1).f0))∧w'.cell? ⟨(ad160.add ((x7_1).toNat * 2)).block,(ad160.add ((x7_1).toNat * 2)).off + 1,none⟩ = some (.int .i64 ((rd_T32 l1 x7_1).f1))∧w'.cell? (ad160.add ((x7_1).toNat * 2)) = some (.int .i64 ((rd_T32 l1 x7_1).f0))∧w'.cell? ⟨(ad160.add ((x7_1).toNat * 2)).block,(ad160.add ((x7_1).toNat * 2)).off + 1,none⟩ = some (.int .i64 ((rd_T32 l1 x7_1).f1))∧w'.cell? (⟨go13,(((rd_T32 l1 x7_1).f0)).toNat,none⟩:Addr) = some (.int .i64 (rd x6_1 ((rd_T32 l1 x7_1).f0)))) (ds:=[16]) #[false,false,false,false,false,false,false,false,false,false,false,false,false,false,false,false,false] (by kernel_rfl) rfl rfl ⟨((HB.out.cell (World.block_lt_of_cell? w _ hw162_0)).trans hw162_0),((HB.out.cell (World.block_lt_of_cell? w _ hw162_1)).trans hw162_1),((HB.out.cell (World.block_lt_of_cell? w _ hw163_0)).trans hw163_0),((HB.out.cell (World.block_lt_of_cell? w _ hw163_1)).trans hw163_1),hx164_0⟩ (fun hHeld=>?_);refine with_tabW spec_l19At.tab7 spec_l19At.bits7 (fun HT_ HW_=>?_)
           generalize w26.drew = w27 at HO_6 HB GG13 HQ28 hf13_0 hx13_0 hx162_0 hx162_1 hx163_0 hx163_1 hx164_0 hHeld ⊢
           refine pure_ (i:=0) (N:=some 25) (v:=?_) (a':=?_) #[true,false,false,false,false,false,false,false,false,false,false,false,false,false,false,false,false] rfl rfl (any_of HT_.out (by kernel_rfl)) (fun _ _ _ h=>h) (Or.inl ⟨by rfl,?_⟩) ?_ ?_
           rotate_left;·intro w';go_simp;with_reducible rfl
           rotate_left;·simp only [Act.put,List.setIfInBounds_toArray,List.set_cons_zero,List.set_cons_succ,i64_w,i32_w];rfl
           refine pure_ (i:=1) (N:=some 26) (v:=?_) (a':=?_) #[true,true,false,false,false,false,false,false,false,false,false,false,false,false,false,false,false] rfl rfl (any_of HT_.out (by kernel_rfl)) (fun _ _ _ h=>h) (Or.inl ⟨by rfl,?_⟩) ?_ ?_
           rotate_left;·intro w';go_simp;with_reducible rfl
           rotate_left;·simp only [Act.put,List.setIfInBounds_toArray,List.set_cons_zero,List.set_cons_succ,i64_w,i32_w];rfl
           refine pure_ (i:=2) (N:=some 27) (v:=?_) (a':=?_) #[true,true,true,false,false,false,false,false,false,false,false,false,false,false,false,false,false] rfl rfl (any_of HT_.out (by kernel_rfl)) (fun _ _ _ h=>h) (Or.inl ⟨by rfl,?_⟩) ?_ ?_
           rotate_left;·intro w';go_simp;with_reducible rfl
           rotate_left;·simp only [Act.put,List.setIfInBounds_toArray,List.set_cons_zero,List.set_cons_succ,i64_w,i32_w];rfl
           refine pure_ (i:=3) (N:=some 28) (v:=?_) (a':=?_) #[true,true,true,true,false,false,false,false,false,false,false,false,false,false,false,false,false] rfl rfl (any_of HT_.out (by kernel_rfl)) (fun _ _ _ h=>h) (Or.inl ⟨by rfl,?_⟩) ?_ ?_
           rotate_left;·intro w';go_simp;with_reducible rfl
           rotate_left;·simp only [Act.put,List.setIfInBounds_toArray,List.set_cons_zero,List.set_cons_succ,i64_w,i32_w];rfl
           refine pure_ (i:=4) (N:=some 29) (v:=?_) (a':=?_) #[true,true,true,true,true,false,false,false,false,false,false,false,false,false,false,false,false] rfl rfl (any_of HT_.out (by kernel_rfl)) (fun _ _ _ h=>h) (Or.inl ⟨by rfl,?_⟩) ?_ ?_
           rotate_left;·intro w';go_simp;with_reducible rfl
           rotate_left;·simp only [Act.put,List.setIfInBounds_toArray,List.set_cons_zero,List.set_cons_succ,i64_w,i32_w];rfl
           refine pure_ (i:=6) (N:=some 31) (v:=?_) (a':=?_) #[true,true,true,true,true,false,true,false,false,false,false,false,false,false,false,false,false] rfl rfl (any_of HT_.out (by kernel_rfl)) (fun _ _ _ h=>h) (Or.inl ⟨by rfl,?_⟩) ?_ ?_
           rotate_left;·intro w';go_simp;with_reducible rfl
           rotate_left;·simp only [Act.put,List.setIfInBounds_toArray,List.set_cons_zero,List.set_cons_succ,i64_w,i32_w];rfl
           refine pure_ (i:=7) (N:=some 32) (v:=?_) (a':=?_) #[true,true,true,true,true,false,true,true,false,false,false,false,false,false,false,false,false] rfl rfl (any_of HT_.out (by kernel_rfl)) (fun _ _ _ h=>h) (Or.inl ⟨by rfl,?_⟩) ?_ ?_
           rotate_left;·intro w';go_simp;with_reducible rfl
           rotate_left;·simp only [Act.put,List.setIfInBounds_toArray,List.set_cons_zero,List.set_cons_succ,i64_w,i32_w];rfl
           refine pure_ (i:=8) (N:=some 33) (v:=?_) (a':=?_) #[true,true,true,true,true,false,true,true,true,false,false,false,false,false,false,false,false] rfl rfl (any_of HT_.out (by kernel_rfl)) (fun _ _ _ h=>h) (Or.inl ⟨by rfl,?_⟩) ?_ ?_
           rotate_left;·intro w';go_simp;with_reducible rfl
           rotate_left;·simp only [Act.put,List.setIfInBounds_toArray,List.set_cons_zero,List.set_cons_succ,i64_w,i32_w];rfl
           refine pure_ (i:=9) (N:=some 34) (v:=?_) (a':=?_) #[true,true,true,true,true,false,true,true,true,true,false,false,false,false,false,false,false] rfl rfl (any_of HT_.out (by kernel_rfl)) (fun _ _ _ h=>h) (Or.inl ⟨by rfl,?_⟩) ?_ ?_
           rotate_left;·intro w';go_simp;with_reducible rfl
           rotate_left;·simp only [Act.put,List.setIfInBounds_toArray,List.set_cons_zero,List.set_cons_succ,i64_w,i32_w];rfl
           refine pure_ (i:=10) (N:=some 35) (v:=?_) (a':=?_) #[true,true,true,true,true,false,true,true,true,true,true,false,false,false,false,false,false] rfl rfl (any_of HT_.out (by kernel_rfl)) (fun _ _ _ h=>h) (Or.inl ⟨by rfl,?_⟩) ?_ ?_
           rotate_left;·intro w';go_simp;with_reducible rfl
           rotate_left;·simp only [Act.put,List.setIfInBounds_toArray,List.set_cons_zero,List.set_cons_succ,i64_w,i32_w];rfl
           refine take_ (i:=5) (N:=some 30) (v:=?_) (a':=?_) #[true,true,true,true,true,true,true,true,true,true,true,false,false,false,false,false,false] rfl rfl (take_ofW HT_.out HW_.out (by kernel_rfl)) (fun _ _ _ h=>h) (Or.inl ⟨by rfl,?_⟩) hHeld ?_ ?_
           rotate_left;·rintro w' ⟨s0,s1,s2,s3,s4⟩;go_simp;with_reducible rfl
           rotate_left;·simp only [Act.put,List.setIfInBounds_toArray,List.set_cons_zero,List.set_cons_succ,i64_w,i32_w];rfl
           refine take_ (i:=11) (N:=some 36) (v:=?_) (a':=?_) #[true,true,true,true,true,true,true,true,true,true,true,true,false,false,false,false,false] rfl rfl (take_ofW HT_.out HW_.out (by kernel_rfl)) (fun _ _ _ h=>h) (Or.inl ⟨by rfl,?_⟩) hHeld ?_ ?_
           rotate_left;·rintro w' ⟨s0,s1,s2,s3,s4⟩;go_simp;with_reducible rfl
           rotate_left;·simp only [Act.put,List.setIfInBounds_toArray,List.set_cons_zero,List.set_cons_succ,i64_w,i32_w];rfl
           refine pure_ (i:=12) (N:=some 37) (v:=?_) (a':=?_) #[true,true,true,true,true,true,true,true,true,true,true,true,true,false,false,false,false] rfl rfl (any_of HT_.out (by kernel_rfl)) (fun _ _ _ h=>h) (Or.inl ⟨by rfl,?_⟩) ?_ ?_
           rotate_left;·intro w';go_simp;with_reducible rfl
           rotate_left;·simp only [Act.put,List.setIfInBounds_toArray,List.set_cons_zero,List.set_cons_succ,i64_w,i32_w];rfl
           refine take_ (i:=13) (N:=some 38) (v:=?_) (a':=?_) #[true,true,true,true,true,true,true,true,true,true,true,true,true,true,false,false,false] rfl rfl (take_ofW HT_.out HW_.out (by kernel_rfl)) (fun _ _ _ h=>h) (Or.inl ⟨by rfl,?_⟩) hHeld ?_ ?_
           rotate_left;·rintro w' ⟨s0,s1,s2,s3,s4⟩;go_simp;with_reducible rfl
           rotate_left;·simp only [Act.put,List.setIfInBounds_toArray,List.set_cons_zero,List.set_cons_succ,i64_w,i32_w];rfl
           refine pure_ (i:=14) (N:=some 39) (v:=?_) (a':=?_) #[true,true,true,true,true,true,true,true,true,true,true,true,true,true,true,false,false] rfl rfl (any_of HT_.out (by kernel_rfl)) (fun _ _ _ h=>h) (Or.inl ⟨by rfl,?_⟩) ?_ ?_
           rotate_left;·intro w';go_simp;with_reducible rfl
           rotate_left;·simp only [Act.put,List.setIfInBounds_toArray,List.set_cons_zero,List.set_cons_succ,i64_w,i32_w];rfl
           refine pure_ (i:=15) (N:=some 40) (v:=?_) (a':=?_) #[true,true,true,true,true,true,true,true,true,true,true,true,true,true,true,true,false] rfl rfl (any_of HT_.out (by kernel_rfl)) (fun _ _ _ h=>h) (Or.inl ⟨by rfl,?_⟩) ?_ ?_
           rotate_left;·intro w';go_simp;with_reducible rfl
           rotate_left;·simp only [Act.put,List.setIfInBounds_toArray,List.set_cons_zero,List.set_cons_succ,i64_w,i32_w];rfl
           refine last_ (i:=16) (N:=none) #[true,true,true,true,true,true,true,true,true,true,true,true,true,true,true,true,true] rfl rfl (one_of HT_.out (by kernel_rfl)) (by decide) (fun K hK=>?_)
           refine skip_ (w1:=?_) (by rfl) rfl ?_ ?_
           rotate_left
           ·go_simp
            rfl
           refine hK.out _ _ ?_
           clear hK K
           refine done_ (done_of HT_.out (by kernel_rfl)) ?_
           have p166:0 ≤ (x7_1:Int):=of_decide_eq_true (by first | (with_reducible assumption) | assumption)
           have q166:x7_1 < (l1.length:Int):=of_decide_eq_true (by first | (with_reducible assumption) | assumption)
           obtain ⟨ad166,e166,hx166_0,hx166_1⟩:=at_T32 HR1.out x7_1 p166 q166
           obtain rfl:ad160 = ad166:=(by injection e166)
           have hn166_0:ad160.block ≠ go13:=Nat.ne_of_lt (Nat.lt_of_lt_of_le (by have:=World.block_lt_of_cell? _ _ hx166_0;first | rwa [add_block] at this | exact this) GB13.out)
           replace hx166_0:=(HB.out.cell (World.block_lt_of_cell? w _ hx166_0)).trans hx166_0
           replace hx166_1:=(HB.out.cell (World.block_lt_of_cell? w _ hx166_1)).trans hx166_1
           replace hx166_0:=(cell_far (p:=⟨go13,(((rd_T32 l1 x7_1).f0):Int).toNat,none⟩) (by first | (rw [add_block];exact hn166_0) | (show (Addr.add _ _).block ≠ _;rw [add_block];exact hn166_0) | exact hn166_0) (.int .i64 (wrap64 ((rd x6_1 ((rd_T32 l1 x7_1).f0)) + 1)))).trans hx166_0
           replace hx166_1:=(cell_far (p:=⟨go13,(((rd_T32 l1 x7_1).f0):Int).toNat,none⟩) (by first | (rw [add_block];exact hn166_0) | (show (Addr.add _ _).block ≠ _;rw [add_block];exact hn166_0) | exact hn166_0) (.int .i64 (wrap64 ((rd x6_1 ((rd_T32 l1 x7_1).f0)) + 1)))).trans hx166_1
           clear hn166_0
           replace p166:=eq_true p166
           replace q166:=eq_true q166
           try go_wp2
           go_roundg k1
           case measure=>have:=HK1.out;omega
           case rel=>exact ⟨(y165),(wrap64 (x7_1 + 1)),(by first | rfl | (simp;done) | (simp [*];done)),H',⟨by have:=HK1.out;omega⟩,⟨by (with_reducible repeat (first | apply Kd.R_alloc | apply Kd.R_drewN | apply Kd.R_drew));exact HQ28.out⟩,⟨by repeat (first | (with_reducible first | exact HB.out | apply below_alloc | apply pw_below_drewN | apply below_drew1 | refine below_set ?_ GB13.out) | exact HB.out)⟩⟩
         ·rw [if_neg c12] at H
          exact absurd H (by simp)
        ·rw [if_neg c11] at H
         exact absurd H (by simp)
       ·replace c10:=Bool.eq_false_iff.mpr c10
        subst c10
        have H1:(some (([]:List Int),false)) = some (r1,r2):=by rw [if_neg (show ¬ (false = true) by decide)] at H;exact H
        clear H
        have H:=H1
        clear H1
        simp only [Option.some.injEq,Prod.mk.injEq] at H
        obtain ⟨rfl,rfl⟩:=H
        have p160:0 ≤ (x7_1:Int):=of_decide_eq_true (by first | (with_reducible assumption) | assumption)
        have q160:x7_1 < (l1.length:Int):=of_decide_eq_true (by first | (with_reducible assumption) | assumption)
        obtain ⟨ad160,e160,hx160_0,hx160_1⟩:=at_T32 HR1.out x7_1 p160 q160
        cases e160
        replace hx160_0:=(HB.out.cell (World.block_lt_of_cell? w _ hx160_0)).trans hx160_0
        replace hx160_1:=(HB.out.cell (World.block_lt_of_cell? w _ hx160_1)).trans hx160_1
        replace p160:=eq_true p160
        replace q160:=eq_true q160
        obtain ⟨Ao29,co29,eo29⟩:=Kd.R_slice HO_6.out
        subst eo29
        go_wp2_with (first | ((with_reducible refine gate_callee (f:=64) rfl ?_);refine goesL_ (some 23) rfl rfl Try.func64 (by kernel_rfl) rfl #[.slice A0 l0.length c0,.slice Ao29 x6_1.length co29,.agg #[.int .i64 ((rd_T32 l1 x7_1).f0),.int .i64 ((rd_T32 l1 x7_1).f1)]] rfl (by (try simp only [List.map_toArray,List.map_cons,List.map_nil]);first | done | rfl | (simp only [List.length_drop,List.length_take];rfl)) ?_;(with_reducible refine (spec_l19Can.calls k1 _ _ l0 _ _ x6_1 ((rd_T32 l1 x7_1).f0) ((rd_T32 l1 x7_1).f1) false _ ?side1 ?side2 ?side3 ?side4 A9.out).mono ?_);(case side1=>repeat (first | exact (Kd.C_below HR0.out HB.out) | (with_reducible refine Kd.C_alloc ?_ _) | (with_reducible refine Kd.C_drewN ?_ _) | (with_reducible refine Kd.C_drew ?_)));(case side2=>exact HC0.out);(case side3=>repeat (first | exact (Kd.R_reads' HO_6.out).2.2 | (with_reducible refine Kd.C_alloc ?_ _) | (with_reducible refine Kd.C_drewN ?_ _) | (with_reducible refine Kd.C_drew ?_)));(case side4=>exact (Kd.R_reads' HO_6.out).2.1);rintro e w30 ⟨rfl,hb⟩;refine ⟨_,rfl,?_⟩;have n0_:=Aside0.mk (Kd.R_below (by (with_reducible repeat (first | apply Kd.R_alloc | apply Kd.R_drewN | apply Kd.R_drew));exact HO_6.out) hb);have n1_:=Aside0.mk (below_step (by repeat (first | (with_reducible first | exact HB.out | apply below_alloc | apply pw_below_drewN | apply below_drew1) | exact HB.out)) hb);clear HO_6;clear HB;have HO_6:=n0_;have HB:=n1_;clear n0_ n1_;(try clear hb);(try clear hb2);(try clear hk);(try clear hi)))
        go_ret2
        exact ⟨_,by first | rfl | (simp [errW_none,errW_some] <;> rfl) | (simp [*,errW_none,errW_some] <;> rfl),by first | exact Kd.R_nil _ _ _ _ _ | exact Kd.N_nil _ _ _ _ _ | exact Kd.V_nil _ _ _ _ _ | exact Kd.Q_nil _ _ _ _ _ | exact Kd.S_nil _ _ _ _ _,by repeat (first | (with_reducible first | exact HB.out | apply below_alloc | apply pw_below_drewN | apply below_drew1) | exact HB.out)⟩
      ·rw [if_neg c8] at H
       exact absurd H (by simp)
     ·rw [if_neg c7] at H
      have c7b0:decide (x7_1 < (l1.length:Int)) = false:=decide_eq_false c7
      clear c7
      simp only [Option.some.injEq,Prod.mk.injEq] at H
      obtain ⟨rfl,rfl⟩:=H
      go_wp2
      go_ret2
      exact ⟨_,by first | rfl | (simp [errW_none,errW_some] <;> rfl) | (simp [*,errW_none,errW_some] <;> rfl),by (with_reducible repeat (first | apply Kd.R_alloc | apply Kd.R_drewN | apply Kd.R_drew));exact HO_6.out,by repeat (first | (with_reducible first | exact HB.out | apply below_alloc | apply pw_below_drewN | apply below_drew1) | exact HB.out)⟩
  ·rw [if_neg c4] at H
   exact absurd H (by simp)
 ·rw [if_neg c3] at H
  exact absurd H (by simp)
def spec_HistoryAt.f (k:Nat) (l0:List (List Int)) (l1:List (S32)):Option (List Int × Bool):=(spec_l19Threads.f k l0).bind fun t171=>(if t171 = true then ((spec_l19At.f k l0 l1).bind fun bt172=>(some (bt172.1,bt172.2))) else (some (([]:List Int),false)))
theorem spec_HistoryAt.mono:∀ a0 a1 k,LeO (spec_HistoryAt.f k a0 a1) (spec_HistoryAt.f (k + 1) a0 a1):=by
 intro a0 a1 k
 unfold spec_HistoryAt.f
 repeat' first
   | (with_reducible exact spec_l19At.mono _ _ _)
   | (with_reducible exact spec_l19Threads.mono _ _)
   | (with_reducible exact LeO.refl _)
   | (with_reducible exact LeO.none _)
   | (with_reducible refine LeO.ite ?_ ?_)
   | (with_reducible refine LeO.bind ?_ (fun _=>?_))
   | exact spec_l19At.mono _ _ _
   | exact spec_l19Threads.mono _ _
   | exact LeO.none _
   | refine LeO.ite ?_ ?_
   | refine LeO.bind ?_ (fun _=>?_)
set_option maxHeartbeats 8000000 in
set_option maxRecDepth 100000 in
theorem spec_HistoryAt.calls (k:Nat) (A0:Option Addr) (c0:Nat) (l0:List (List Int)) (A1:Option Addr) (c1:Nat) (l1:List (S32)) (r1:List Int) (r2:Bool) (w:World) (hr0:Kd.C (Kd.slice 3 (Kd.int .i64)) w A0 l0.length l0) (hc0:l0.length ≤ c0) (hr1:Kd.C k32 w A1 l1.length l1) (hc1:l1.length ≤ c1) (h:spec_HistoryAt.f k l0 l1 = some (r1,r2)) :
  Calls Try.prog 20 #[.slice A0 l0.length c0,.slice A1 l1.length c1] w fun e w'=>∃ v0_:Value,e = .returned (.tuple #[v0_,.bool r2])∧Kd.R (Kd.int .i64) 3 w' w.heap.size (fun _=>True) v0_ r1∧Below w.heap.size w w':=by
 have HR0:=Aside0.mk hr0
 have HC0:=Aside0.mk hc0
 clear hr0 hc0
 have HR1:=Aside0.mk hr1
 have HC1:=Aside0.mk hc1
 clear hr1 hc1
 have HB:=Aside0.mk (Below.refl w.heap.size w)
 have H:((spec_l19Threads.f k l0).bind fun t171=>(if t171 = true then ((spec_l19At.f k l0 l1).bind fun bt172=>(some (bt172.1,bt172.2))) else (some (([]:List Int),false)))) = some (r1,r2):=h
 clear h
 replace H:=Option.bind_eq_some_iff.mp H
 obtain ⟨t171,A30,H⟩:=H
 replace H:(if t171 = true then ((spec_l19At.f k l0 l1).bind fun bt172=>(some (bt172.1,bt172.2))) else (some (([]:List Int),false))) = some (r1,r2):=H
 have A3:=Aside0.mk A30
 clear A30
 by_cases c4:t171 = true
 ·subst c4
  have H1:((spec_l19At.f k l0 l1).bind fun bt172=>(some (bt172.1,bt172.2))) = some (r1,r2):=by rw [if_pos rfl] at H;exact H
  clear H
  have H:=H1
  clear H1
  replace H:=Option.bind_eq_some_iff.mp H
  obtain ⟨⟨t172,t173⟩,A50,H⟩:=H
  replace H:(some (t172,t173)) = some (r1,r2):=H
  have A5:=Aside0.mk A50
  clear A50
  simp only [Option.some.injEq,Prod.mk.injEq] at H
  obtain ⟨rfl,rfl⟩:=H
  go_enter Try.func20,Try.ntmps20
  go_wp2_with (first | ((with_reducible refine gate_callee (f:=58) rfl ?_);refine goesL_ (some 7) rfl rfl Try.func58 (by kernel_rfl) rfl #[.slice A0 l0.length c0] rfl (by (try simp only [List.map_toArray,List.map_cons,List.map_nil]);first | done | rfl | (simp only [List.length_drop,List.length_take];rfl)) ?_;(with_reducible refine (spec_l19Threads.calls k _ _ l0 true _ ?side1 ?side2 A3.out).mono ?_);(case side1=>repeat (first | exact HR0.out | (with_reducible refine Kd.C_alloc ?_ _) | (with_reducible refine Kd.C_drewN ?_ _) | (with_reducible refine Kd.C_drew ?_)));(case side2=>exact HC0.out);rintro e w' ⟨rfl,⟨nd,rfl⟩⟩;refine ⟨_,rfl,?_⟩) | ((with_reducible refine gate_callee (f:=59) rfl ?_);refine goesL_ (some 11) rfl rfl Try.func59 (by kernel_rfl) rfl #[.slice A0 l0.length c0,.slice A1 l1.length c1] rfl (by (try simp only [List.map_toArray,List.map_cons,List.map_nil]);first | done | rfl | (simp only [List.length_drop,List.length_take];rfl)) ?_;(with_reducible refine (spec_l19At.calls k _ _ l0 _ _ l1 t172 t173 _ ?side1 ?side2 ?side3 ?side4 A5.out).mono ?_);(case side1=>repeat (first | exact HR0.out | (with_reducible refine Kd.C_alloc ?_ _) | (with_reducible refine Kd.C_drewN ?_ _) | (with_reducible refine Kd.C_drew ?_)));(case side2=>exact HC0.out);(case side3=>repeat (first | exact HR1.out | (with_reducible refine Kd.C_alloc ?_ _) | (with_reducible refine Kd.C_drewN ?_ _) | (with_reducible refine Kd.C_drew ?_)));(case side4=>exact HC1.out);rintro e w6 ⟨v174,rfl,ho0,hb⟩;refine ⟨_,rfl,?_⟩;have n0_:=Aside0.mk (Kd.R_lower ho0 (below_size (by repeat (first | (with_reducible first | exact HB.out | apply below_alloc | apply pw_below_drewN | apply below_drew1) | exact HB.out))));have n1_:=Aside0.mk (below_step (by repeat (first | (with_reducible first | exact HB.out | apply below_alloc | apply pw_below_drewN | apply below_drew1) | exact HB.out)) hb);clear HB;have HO175:=n0_;have HB:=n1_;clear n0_ n1_;(try clear hb);(try clear hb2);(try clear hk);(try clear hi);(try clear ho0)))
  go_ret2
  exact ⟨_,by first | rfl | (simp [errW_none,errW_some] <;> rfl) | (simp [*,errW_none,errW_some] <;> rfl),by (with_reducible repeat (first | apply Kd.R_alloc | apply Kd.R_drewN | apply Kd.R_drew));exact HO175.out,by repeat (first | (with_reducible first | exact HB.out | apply below_alloc | apply pw_below_drewN | apply below_drew1) | exact HB.out)⟩
 ·replace c4:=Bool.eq_false_iff.mpr c4
  subst c4
  have H1:(some (([]:List Int),false)) = some (r1,r2):=by rw [if_neg (show ¬ (false = true) by decide)] at H;exact H
  clear H
  have H:=H1
  clear H1
  simp only [Option.some.injEq,Prod.mk.injEq] at H
  obtain ⟨rfl,rfl⟩:=H
  go_enter Try.func20,Try.ntmps20
  go_wp2_with (first | ((with_reducible refine gate_callee (f:=58) rfl ?_);refine goesL_ (some 7) rfl rfl Try.func58 (by kernel_rfl) rfl #[.slice A0 l0.length c0] rfl (by (try simp only [List.map_toArray,List.map_cons,List.map_nil]);first | done | rfl | (simp only [List.length_drop,List.length_take];rfl)) ?_;(with_reducible refine (spec_l19Threads.calls k _ _ l0 false _ ?side1 ?side2 A3.out).mono ?_);(case side1=>repeat (first | exact HR0.out | (with_reducible refine Kd.C_alloc ?_ _) | (with_reducible refine Kd.C_drewN ?_ _) | (with_reducible refine Kd.C_drew ?_)));(case side2=>exact HC0.out);rintro e w' ⟨rfl,⟨nd,rfl⟩⟩;refine ⟨_,rfl,?_⟩))
  go_ret2
  exact ⟨_,by first | rfl | (simp [errW_none,errW_some] <;> rfl) | (simp [*,errW_none,errW_some] <;> rfl),by first | exact Kd.R_nil _ _ _ _ _ | exact Kd.N_nil _ _ _ _ _ | exact Kd.V_nil _ _ _ _ _ | exact Kd.Q_nil _ _ _ _ _ | exact Kd.S_nil _ _ _ _ _,by repeat (first | (with_reducible first | exact HB.out | apply below_alloc | apply pw_below_drewN | apply below_drew1) | exact HB.out)⟩
def spec_HistoryOk.f (k:Nat) (l0:List (List Int)) (l1:List (S32)):Option (Bool):=(spec_HistoryAt.f k l0 l1).bind fun bt259=>(some bt259.2)
theorem spec_HistoryOk.mono:∀ a0 a1 k,LeO (spec_HistoryOk.f k a0 a1) (spec_HistoryOk.f (k + 1) a0 a1):=by
 intro a0 a1 k
 unfold spec_HistoryOk.f
 repeat' first
   | (with_reducible exact spec_HistoryAt.mono _ _ _)
   | (with_reducible exact LeO.refl _)
   | (with_reducible exact LeO.none _)
   | (with_reducible refine LeO.ite ?_ ?_)
   | (with_reducible refine LeO.bind ?_ (fun _=>?_))
   | exact spec_HistoryAt.mono _ _ _
   | exact LeO.none _
   | refine LeO.ite ?_ ?_
   | refine LeO.bind ?_ (fun _=>?_)
set_option maxHeartbeats 8000000 in
set_option maxRecDepth 100000 in
theorem spec_HistoryOk.calls (k:Nat) (A0:Option Addr) (c0:Nat) (l0:List (List Int)) (A1:Option Addr) (c1:Nat) (l1:List (S32)) (r:Bool) (w:World) (hr0:Kd.C (Kd.slice 3 (Kd.int .i64)) w A0 l0.length l0) (hc0:l0.length ≤ c0) (hr1:Kd.C k32 w A1 l1.length l1) (hc1:l1.length ≤ c1) (h:spec_HistoryOk.f k l0 l1 = some r) :
  Calls Try.prog 24 #[.slice A0 l0.length c0,.slice A1 l1.length c1] w fun e w'=>e = .returned (.bool r)∧Below w.heap.size w w':=by
 have HR0:=Aside0.mk hr0
 have HC0:=Aside0.mk hc0
 clear hr0 hc0
 have HR1:=Aside0.mk hr1
 have HC1:=Aside0.mk hc1
 clear hr1 hc1
 have HB:=Aside0.mk (Below.refl w.heap.size w)
 have H:((spec_HistoryAt.f k l0 l1).bind fun bt259=>(some bt259.2)) = some r:=h
 clear h
 replace H:=Option.bind_eq_some_iff.mp H
 obtain ⟨⟨t259,t260⟩,A30,H⟩:=H
 replace H:(some t260) = some r:=H
 have A3:=Aside0.mk A30
 clear A30
 obtain rfl:=Option.some.inj H
 go_enter Try.func24,Try.ntmps24
 go_wp2_with (first | ((with_reducible refine gate_callee (f:=20) rfl ?_);refine goesL_ (some 10) rfl rfl Try.func20 (by kernel_rfl) rfl #[.slice A0 l0.length c0,.slice A1 l1.length c1] rfl (by (try simp only [List.map_toArray,List.map_cons,List.map_nil]);first | done | rfl | (simp only [List.length_drop,List.length_take];rfl)) ?_;(with_reducible refine (spec_HistoryAt.calls k _ _ l0 _ _ l1 t259 t260 _ ?side1 ?side2 ?side3 ?side4 A3.out).mono ?_);(case side1=>repeat (first | exact HR0.out | (with_reducible refine Kd.C_alloc ?_ _) | (with_reducible refine Kd.C_drewN ?_ _) | (with_reducible refine Kd.C_drew ?_)));(case side2=>exact HC0.out);(case side3=>repeat (first | exact HR1.out | (with_reducible refine Kd.C_alloc ?_ _) | (with_reducible refine Kd.C_drewN ?_ _) | (with_reducible refine Kd.C_drew ?_)));(case side4=>exact HC1.out);rintro e w4 ⟨v261,rfl,ho0,hb⟩;refine ⟨_,rfl,?_⟩;have n0_:=Aside0.mk (Kd.R_lower ho0 (below_size (by repeat (first | (with_reducible first | exact HB.out | apply below_alloc | apply pw_below_drewN | apply below_drew1) | exact HB.out))));have n1_:=Aside0.mk (below_step (by repeat (first | (with_reducible first | exact HB.out | apply below_alloc | apply pw_below_drewN | apply below_drew1) | exact HB.out)) hb);clear HB;have HO262:=n0_;have HB:=n1_;clear n0_ n1_;(try clear hb);(try clear hb2);(try clear hk);(try clear hi);(try clear ho0)))
 go_ret
 exact ⟨by first | rfl | (simp [errW_none,errW_some] <;> rfl) | (simp [*,errW_none,errW_some] <;> rfl),by repeat (first | (with_reducible first | exact HB.out | apply below_alloc | apply pw_below_drewN | apply below_drew1) | exact HB.out)⟩
mutual
def spec_HistoryMay.l0:Nat → List (List Int) → List (S32) → List Int → Int → Option ((List (S32)))
 | 0,_,_,_,_=>none
 | k + 1,x0,x5,x6,x8=>if x8 < (x0.length:Int) then ((spec_l19Can.f k x0 x6 x8 (-1)).bind fun t184=>(if t184 = true then (if x5.length < 8796093022208 then (spec_HistoryMay.l0 k x0 (x5 ++ [(⟨x8,(-1)⟩:S32)]) x6 (wrap64 (x8 + 1))) else (none)) else (spec_HistoryMay.l0 k x0 x5 x6 (wrap64 (x8 + 1))))) else (spec_HistoryMay.l1 k x0 x5 x6 0)
def spec_HistoryMay.l1:Nat → List (List Int) → List (S32) → List Int → Int → Option ((List (S32)))
 | 0,_,_,_,_=>none
 | k + 1,x0,x5,x6,x10=>if x10 < (x0.length:Int) then (spec_HistoryMay.l2 k x0 x5 x6 x10 (wrap64 (x10 + 1))) else (some x5)
def spec_HistoryMay.l2:Nat → List (List Int) → List (S32) → List Int → Int → Int → Option ((List (S32)))
 | 0,_,_,_,_,_=>none
 | k + 1,x0,x5,x6,x10,x11=>if x11 < (x0.length:Int) then ((spec_l19Can.f k x0 x6 x10 x11).bind fun t189=>(if t189 = true then (if x5.length < 8796093022208 then (spec_HistoryMay.l2 k x0 (x5 ++ [(⟨x10,x11⟩:S32)]) x6 x10 (wrap64 (x11 + 1))) else (none)) else (spec_HistoryMay.l2 k x0 x5 x6 x10 (wrap64 (x11 + 1))))) else (spec_HistoryMay.l1 k x0 x5 x6 (wrap64 (x10 + 1)))
end
def spec_HistoryMay.f (k:Nat) (l0:List (List Int)) (l1:List (S32)):Option ((List (S32))):=(some (([]:List (S32)):List (S32))).bind fun y176=>((spec_HistoryAt.f k l0 l1).bind fun bt179=>(if bt179.2 = true then (spec_HistoryMay.l0 k l0 y176 bt179.1 0) else (some y176)))
theorem spec_HistoryMay.mono_l:∀ k,(∀ y0 y1 y2 y3,LeO (spec_HistoryMay.l0 k y0 y1 y2 y3) (spec_HistoryMay.l0 (k + 1) y0 y1 y2 y3))∧(∀ y0 y1 y2 y3,LeO (spec_HistoryMay.l1 k y0 y1 y2 y3) (spec_HistoryMay.l1 (k + 1) y0 y1 y2 y3))∧(∀ y0 y1 y2 y3 y4,LeO (spec_HistoryMay.l2 k y0 y1 y2 y3 y4) (spec_HistoryMay.l2 (k + 1) y0 y1 y2 y3 y4))
 | 0=>⟨fun _ _ _ _ r h=>by simp [spec_HistoryMay.l0] at h,fun _ _ _ _ r h=>by simp [spec_HistoryMay.l1] at h,fun _ _ _ _ _ r h=>by simp [spec_HistoryMay.l2] at h⟩
 | k + 1=>by
  obtain ⟨ih0,ih1,ih2⟩:=spec_HistoryMay.mono_l k
  refine ⟨?_,?_,?_⟩
  ·intro y0 y1 y2 y3
   unfold spec_HistoryMay.l0
   repeat' first
   | (with_reducible exact ih0 _ _ _ _)
   | (with_reducible exact ih1 _ _ _ _)
   | (with_reducible exact ih2 _ _ _ _ _)
   | (with_reducible exact spec_HistoryAt.mono _ _ _)
   | (with_reducible exact spec_l19Can.mono _ _ _ _ _)
   | (with_reducible exact LeO.refl _)
   | (with_reducible exact LeO.none _)
   | (with_reducible refine LeO.ite ?_ ?_)
   | (with_reducible refine LeO.bind ?_ (fun _=>?_))
   | exact ih0 _ _ _ _
   | exact ih1 _ _ _ _
   | exact ih2 _ _ _ _ _
   | exact spec_HistoryAt.mono _ _ _
   | exact spec_l19Can.mono _ _ _ _ _
   | exact LeO.none _
   | refine LeO.ite ?_ ?_
   | refine LeO.bind ?_ (fun _=>?_)
  ·intro y0 y1 y2 y3
   unfold spec_HistoryMay.l1
   repeat' first
   | (with_reducible exact ih0 _ _ _ _)
   | (with_reducible exact ih1 _ _ _ _)
   | (with_reducible exact ih2 _ _ _ _ _)
   | (with_reducible exact spec_HistoryAt.mono _ _ _)
   | (with_reducible exact spec_l19Can.mono _ _ _ _ _)
   | (with_reducible exact LeO.refl _)
   | (with_reducible exact LeO.none _)
   | (with_reducible refine LeO.ite ?_ ?_)
   | (with_reducible refine LeO.bind ?_ (fun _=>?_))
   | exact ih0 _ _ _ _
   | exact ih1 _ _ _ _
   | exact ih2 _ _ _ _ _
   | exact spec_HistoryAt.mono _ _ _
   | exact spec_l19Can.mono _ _ _ _ _
   | exact LeO.none _
   | refine LeO.ite ?_ ?_
   | refine LeO.bind ?_ (fun _=>?_)
  ·intro y0 y1 y2 y3 y4
   unfold spec_HistoryMay.l2
   repeat' first
   | (with_reducible exact ih0 _ _ _ _)
   | (with_reducible exact ih1 _ _ _ _)
   | (with_reducible exact ih2 _ _ _ _ _)
   | (with_reducible exact spec_HistoryAt.mono _ _ _)
   | (with_reducible exact spec_l19Can.mono _ _ _ _ _)
   | (with_reducible exact LeO.refl _)
   | (with_reducible exact LeO.none _)
   | (with_reducible refine LeO.ite ?_ ?_)
   | (with_reducible refine LeO.bind ?_ (fun _=>?_))
   | exact ih0 _ _ _ _
   | exact ih1 _ _ _ _
   | exact ih2 _ _ _ _ _
   | exact spec_HistoryAt.mono _ _ _
   | exact spec_l19Can.mono _ _ _ _ _
   | exact LeO.none _
   | refine LeO.ite ?_ ?_
   | refine LeO.bind ?_ (fun _=>?_)
theorem spec_HistoryMay.mono:∀ a0 a1 k,LeO (spec_HistoryMay.f k a0 a1) (spec_HistoryMay.f (k + 1) a0 a1):=by
 intro a0 a1 k
 obtain ⟨ih0,ih1,ih2⟩:=spec_HistoryMay.mono_l k
 unfold spec_HistoryMay.f
 repeat' first
   | (with_reducible exact ih0 _ _ _ _)
   | (with_reducible exact ih1 _ _ _ _)
   | (with_reducible exact ih2 _ _ _ _ _)
   | (with_reducible exact spec_HistoryAt.mono _ _ _)
   | (with_reducible exact spec_l19Can.mono _ _ _ _ _)
   | (with_reducible exact LeO.refl _)
   | (with_reducible exact LeO.none _)
   | (with_reducible refine LeO.ite ?_ ?_)
   | (with_reducible refine LeO.bind ?_ (fun _=>?_))
   | exact ih0 _ _ _ _
   | exact ih1 _ _ _ _
   | exact ih2 _ _ _ _ _
   | exact spec_HistoryAt.mono _ _ _
   | exact spec_l19Can.mono _ _ _ _ _
   | exact LeO.none _
   | refine LeO.ite ?_ ?_
   | refine LeO.bind ?_ (fun _=>?_)
set_option maxHeartbeats 8000000 in
set_option maxRecDepth 100000 in
theorem spec_HistoryMay.calls (k:Nat) (A0:Option Addr) (c0:Nat) (l0:List (List Int)) (A1:Option Addr) (c1:Nat) (l1:List (S32)) (r:List (S32)) (w:World) (hr0:Kd.C (Kd.slice 3 (Kd.int .i64)) w A0 l0.length l0) (hc0:l0.length ≤ c0) (hr1:Kd.C k32 w A1 l1.length l1) (hc1:l1.length ≤ c1) (h:spec_HistoryMay.f k l0 l1 = some r) :
  Calls Try.prog 33 #[.slice A0 l0.length c0,.slice A1 l1.length c1] w fun e w'=>∃ v0_:Value,e = .returned (v0_)∧Kd.R k32 32 w' w.heap.size (fun _=>True) v0_ r∧Below w.heap.size w w':=by
 have hu32:=Try.underlying32
 have HR0:=Aside0.mk hr0
 have HC0:=Aside0.mk hc0
 clear hr0 hc0
 have HR1:=Aside0.mk hr1
 have HC1:=Aside0.mk hc1
 clear hr1 hc1
 have HB:=Aside0.mk (Below.refl w.heap.size w)
 have H:((some (([]:List (S32)):List (S32))).bind fun y176=>((spec_HistoryAt.f k l0 l1).bind fun bt179=>(if bt179.2 = true then (spec_HistoryMay.l0 k l0 y176 bt179.1 0) else (some y176)))) = some r:=h
 clear h
 obtain ⟨y176,hy176⟩:∃ y_:List (S32),y_ = (([]:List (S32))):=⟨_,rfl⟩
 replace H:((spec_HistoryAt.f k l0 l1).bind fun bt179=>(if bt179.2 = true then (spec_HistoryMay.l0 k l0 y176 bt179.1 0) else (some y176))) = some r:=by first | (rw [hy176];with_reducible exact H) | (have H2_:=(Option.bind_some _ _).symm.trans H;rw [hy176];with_reducible exact H2_) | (have H2_:=(Option.bind_some _ _).symm.trans H;with_reducible exact H2_) | with_reducible exact H | (rw [hy176];exact H) | exact H
 have Ny176:=Aside0.mk hy176
 clear hy176
 replace H:=Option.bind_eq_some_iff.mp H
 obtain ⟨⟨t179,t180⟩,A30,H⟩:=H
 replace H:(if t180 = true then (spec_HistoryMay.l0 k l0 y176 t179 0) else (some y176)) = some r:=H
 have A3:=Aside0.mk A30
 clear A30
 by_cases c4:t180 = true
 ·subst c4
  have H1:(spec_HistoryMay.l0 k l0 y176 t179 0) = some r:=by rw [if_pos rfl] at H;exact H
  clear H
  have H:=H1
  clear H1
  have H':=Aside0.mk H
  clear H
  go_enter Try.func33,Try.ntmps33
  go_wp2_with (first | ((with_reducible refine gate_dst (N:=13) rfl ?_);refine Kd.R_lit k32 _ 32 ?hg (N:=13) ?hd (xs:=([]:List (S32))) (inner:=[]) (ok:=fun _=>True) (okp:=fun _=>True) ?hr ?hp (fun _ hk=>hk) trivial (Below.refl _ _) (Nat.le_refl _) (by simp) ?_;(case hd=>rfl);(case hg=>rfl);(case hr=>first | (go_simp;done) | (go_simp;rfl));(case hp=>exact (Reps.none _ _));intro v177 w5 ho6 hb hg_ hnew_;clear hg_ hnew_;(first | rw [← Ny176.out] at ho6 | (simp only [Int.reduceToNat] at ho6;rw [← Ny176.out] at ho6));have n0_:=Aside0.mk (Kd.R_lower ho6 (below_size (by repeat (first | (with_reducible first | exact HB.out | apply below_alloc | apply pw_below_drewN | apply below_drew1) | exact HB.out))));have n1_:=Aside0.mk (below_step (by repeat (first | (with_reducible first | exact HB.out | apply below_alloc | apply pw_below_drewN | apply below_drew1) | exact HB.out)) hb);clear HB;have HO178:=n0_;have HB:=n1_;clear n0_ n1_;clear hb ho6) | ((with_reducible refine gate_callee (f:=20) rfl ?_);refine goesL_ (some 17) rfl rfl Try.func20 (by kernel_rfl) rfl #[.slice A0 l0.length c0,.slice A1 l1.length c1] rfl (by (try simp only [List.map_toArray,List.map_cons,List.map_nil]);first | done | rfl | (simp only [List.length_drop,List.length_take];rfl)) ?_;(with_reducible refine (spec_HistoryAt.calls k _ _ l0 _ _ l1 t179 true _ ?side1 ?side2 ?side3 ?side4 A3.out).mono ?_);(case side1=>repeat (first | exact (Kd.C_below HR0.out HB.out) | (with_reducible refine Kd.C_alloc ?_ _) | (with_reducible refine Kd.C_drewN ?_ _) | (with_reducible refine Kd.C_drew ?_)));(case side2=>exact HC0.out);(case side3=>repeat (first | exact (Kd.C_below HR1.out HB.out) | (with_reducible refine Kd.C_alloc ?_ _) | (with_reducible refine Kd.C_drewN ?_ _) | (with_reducible refine Kd.C_drew ?_)));(case side4=>exact HC1.out);rintro e w7 ⟨v181,rfl,ho0,hb⟩;refine ⟨_,rfl,?_⟩;have n0_:=Aside0.mk (Kd.R_below (by (with_reducible repeat (first | apply Kd.R_alloc | apply Kd.R_drewN | apply Kd.R_drew));exact HO178.out) hb);have n1_:=Aside0.mk (Kd.R_lower ho0 (below_size (by repeat (first | (with_reducible first | exact HB.out | apply below_alloc | apply pw_below_drewN | apply below_drew1) | exact HB.out))));have n2_:=Aside0.mk (below_step (by repeat (first | (with_reducible first | exact HB.out | apply below_alloc | apply pw_below_drewN | apply below_drew1) | exact HB.out)) hb);clear HO178;clear HB;have HO178:=n0_;have HO182:=n1_;have HB:=n2_;clear n0_ n1_ n2_;(try clear hb);(try clear hb2);(try clear hk);(try clear hi);(try clear ho0)))
  go_loopg [5,8] k (fun kq v5 v8 w'=>∃ (x5_1:List (S32)) (x8_1:Int),v8 = .int .i64 x8_1∧Aside0 (spec_HistoryMay.l0 kq l0 x5_1 t179 x8_1 = some r)∧Aside0 (kq ≤ k)∧Aside0 (Kd.R k32 32 w' w.heap.size (fun _=>True) v5 x5_1)∧Aside0 (Kd.R (Kd.int .i64) 3 w' w.heap.size (fun _=>True) v181 t179)∧Aside0 (Below w.heap.size w w'))
  case atStart=>exact ⟨(y176),(0),(by first | rfl | (simp;done) | (simp [*];done)),H',⟨Nat.le_refl _⟩,⟨by (with_reducible repeat (first | apply Kd.R_alloc | apply Kd.R_drewN | apply Kd.R_drew));exact HO178.out⟩,⟨by (with_reducible repeat (first | apply Kd.R_alloc | apply Kd.R_drewN | apply Kd.R_drew));exact HO182.out⟩,⟨by repeat (first | (with_reducible first | exact HB.out | apply below_alloc | apply pw_below_drewN | apply below_drew1) | exact HB.out)⟩⟩
  case round =>
   clear H'
   try clear c1
   try clear c2
   try clear p2
   try clear c3
   try clear c4
   obtain ⟨x5_1,x8_1,rfl,HA,HK1,HO_5,HO_6,HB⟩:=hrel
   cases gk with
   | zero=>exact absurd HA.out (by simp [spec_HistoryMay.l0])
   | succ k1 =>
    have H:=HA.out
    clear HA
    simp only [spec_HistoryMay.l0] at H
    by_cases c8:x8_1 < (l0.length:Int)
    ·rw [if_pos c8] at H
     have c8b0:decide (x8_1 < (l0.length:Int)) = true:=decide_eq_true c8
     clear c8
     replace H:=Option.bind_eq_some_iff.mp H
     obtain ⟨t184,A90,H⟩:=H
     replace H:(if t184 = true then (if x5_1.length < 8796093022208 then (spec_HistoryMay.l0 k1 l0 (x5_1 ++ [(⟨x8_1,(-1)⟩:S32)]) t179 (wrap64 (x8_1 + 1))) else (none)) else (spec_HistoryMay.l0 k1 l0 x5_1 t179 (wrap64 (x8_1 + 1)))) = some r:=H
     have A9:=Aside0.mk A90
     clear A90
     by_cases c10:t184 = true
     ·subst c10
      have H1:(if x5_1.length < 8796093022208 then (spec_HistoryMay.l0 k1 l0 (x5_1 ++ [(⟨x8_1,(-1)⟩:S32)]) t179 (wrap64 (x8_1 + 1))) else (none)) = some r:=by rw [if_pos rfl] at H;exact H
      clear H
      have H:=H1
      clear H1
      by_cases c11:x5_1.length < 8796093022208
      ·rw [if_pos c11] at H
       have LMc11:=Aside0.mk c11
       clear c11
       obtain ⟨y185,hy185⟩:∃ y_:List (S32),y_ = (x5_1 ++ [(⟨x8_1,(-1)⟩:S32)]):=⟨_,rfl⟩
       replace H:(spec_HistoryMay.l0 k1 l0 y185 t179 (wrap64 (x8_1 + 1))) = some r:=by first | (rw [hy185];with_reducible exact H) | (have H2_:=(Option.bind_some _ _).symm.trans H;rw [hy185];with_reducible exact H2_) | (have H2_:=(Option.bind_some _ _).symm.trans H;with_reducible exact H2_) | with_reducible exact H | (rw [hy185];exact H) | exact H
       have Ny185:=Aside0.mk hy185
       clear hy185
       have H':=Aside0.mk H
       clear H
       go_wp2_with (first | ((with_reducible refine gate_dst (N:=9) rfl ?_);refine box_event ?hg (N:=9) ?hd (cs:=#[.int .i64 0,.int .i64 0]) (t:=32) ?hr ?_;(case hd=>rfl);(case hg=>rfl);(case hr=>first | (go_simp;done) | (go_simp;rfl));intro gb183 hg w12 hbox hb;have n0_:=Aside0.mk (Kd.R_below (Kd.R_elderB (by (with_reducible repeat (first | apply Kd.R_alloc | apply Kd.R_drewN | apply Kd.R_drew));exact HO_5.out) gb183 (Nat.le_of_eq hg.symm)) hb);have n1_:=Aside0.mk (Kd.R_below (by (with_reducible repeat (first | apply Kd.R_alloc | apply Kd.R_drewN | apply Kd.R_drew));exact HO_6.out) hb);have n2_:=Aside0.mk (below_step (by repeat (first | (with_reducible first | exact HB.out | apply below_alloc | apply pw_below_drewN | apply below_drew1) | exact HB.out)) hb);have n3_:=Aside0.mk (hbox);have n4_:=Aside0.mk ((by rw [hg];exact (below_size (by repeat (first | (with_reducible first | exact HB.out | apply below_alloc | apply pw_below_drewN | apply below_drew1) | exact HB.out))):w.heap.size ≤ gb183));have n5_:=Aside0.mk ((by rw [hg];exact (below_size (by repeat (first | (with_reducible first | exact HB.out | apply below_alloc | apply pw_below_drewN | apply below_drew1) | exact HB.out))):w.heap.size ≤ gb183));clear HO_5;clear HO_6;clear HB;have HO_5:=n0_;have HO_6:=n1_;have HB:=n2_;have BK183:=n3_;have GW183:=n4_;have GE183:=n5_;clear n0_ n1_ n2_ n3_ n4_ n5_;clear hb hbox hg;have hcz13_0:w12.cell? ⟨gb183,0,none⟩ = some (.int .i64 0):=(blk_cell BK183.out 0).trans rfl;have hcz13_1:w12.cell? ⟨gb183,1,none⟩ = some (.int .i64 0):=(blk_cell BK183.out 1).trans rfl;have hfz13_0:=blk_frozen BK183.out 0;have hfz13_1:=blk_frozen BK183.out 1;obtain ⟨Ao14,co14,eo14⟩:=Kd.R_slice HO_6.out;subst eo14) | ((with_reducible refine gate_callee (f:=64) rfl ?_);refine goesL_ (some 34) rfl rfl Try.func64 (by kernel_rfl) rfl #[.slice A0 l0.length c0,.slice Ao14 t179.length co14,.agg #[.int .i64 x8_1,.int .i64 (-1)]] rfl (by (try simp only [List.map_toArray,List.map_cons,List.map_nil]);first | done | rfl | (simp only [List.length_drop,List.length_take];rfl)) ?_;(with_reducible refine (spec_l19Can.calls k1 _ _ l0 _ _ t179 x8_1 (-1) true _ ?side1 ?side2 ?side3 ?side4 A9.out).mono ?_);(case side1=>exact Kd.C_below HR0.out (by repeat (first | (with_reducible first | exact HB.out | apply below_alloc | apply pw_below_drewN | apply below_drew1 | refine below_set ?_ GE183.out) | exact HB.out)));(case side2=>exact HC0.out);(case side3=>refine (Kd.R_reads' (e:=3) (base:=w.heap.size) (ok:=fun k_=>True) (n:=t179.length) (c:=co14) ?_).2.2;exact (by (with_reducible repeat (first | apply Kd.R_alloc | apply Kd.R_drewN | apply Kd.R_drew));exact (Kd.R_mono (Kd.R_far (p:=⟨gb183,1,none⟩) (Kd.R_far (p:=⟨gb183,0,none⟩) (Kd.R_types HO_6.out BK183.out (by decide)) (fun _ hk=>hk.2) (.int .i64 x8_1)) (fun _ hk=>hk.2) (.int .i64 (-1))) (fun _ h_=>h_.1))));(case side4=>exact (Kd.R_reads' HO_6.out).2.1);rintro e w15 ⟨rfl,hb⟩;refine ⟨_,rfl,?_⟩;have n0_:=Aside0.mk (Kd.R_below (by (with_reducible repeat (first | apply Kd.R_alloc | apply Kd.R_drewN | apply Kd.R_drew));exact (Kd.R_mono (Kd.R_far (p:=⟨gb183,1,none⟩) (Kd.R_far (p:=⟨gb183,0,none⟩) (Kd.R_mono HO_5.out (fun k_ hk=>(⟨hk,hk.2⟩:_∧k_ ≠ gb183))) (fun _ hk=>hk.2) (.int .i64 x8_1)) (fun _ hk=>hk.2) (.int .i64 (-1))) (fun _ h_=>h_.1))) hb);have n1_:=Aside0.mk (Kd.R_below (by (with_reducible repeat (first | apply Kd.R_alloc | apply Kd.R_drewN | apply Kd.R_drew));exact (Kd.R_mono (Kd.R_far (p:=⟨gb183,1,none⟩) (Kd.R_far (p:=⟨gb183,0,none⟩) (Kd.R_types HO_6.out BK183.out (by decide)) (fun _ hk=>hk.2) (.int .i64 x8_1)) (fun _ hk=>hk.2) (.int .i64 (-1))) (fun _ h_=>h_.1))) hb);have n2_:=Aside0.mk (blk_below (g:=gb183) (o:=.cells #[.int .i64 x8_1,.int .i64 (-1)] 32 (0,0)) (by (with_reducible repeat (first | refine blk_drewN ?_ _ | refine blk_drew ?_ | refine blk_alloc ?_ _));refine blk_put (cs:=#[.int .i64 x8_1,.int .i64 0]) ?_ 1 _ rfl;(with_reducible repeat (first | refine blk_drewN ?_ _ | refine blk_drew ?_ | refine blk_alloc ?_ _));refine blk_put (cs:=#[.int .i64 0,.int .i64 0]) ?_ 0 _ rfl;(with_reducible repeat (first | refine blk_drewN ?_ _ | refine blk_drew ?_ | refine blk_alloc ?_ _));exact BK183.out) hb);have n3_:=Aside0.mk (below_step (by repeat (first | (with_reducible first | exact HB.out | apply below_alloc | apply pw_below_drewN | apply below_drew1 | refine below_set ?_ GE183.out) | exact HB.out)) hb);clear HO_5;clear HO_6;clear BK183;clear HB;have HO_5:=n0_;have HO_6:=n1_;have BK183:=n2_;have HB:=n3_;clear n0_ n1_ n2_ n3_;(try clear hb);(try clear hb2);(try clear hk);(try clear hi);have hcz16_0:w15.cell? ⟨gb183,0,none⟩ = some (.int .i64 x8_1):=(blk_cell BK183.out 0).trans rfl;have hcz16_1:w15.cell? ⟨gb183,1,none⟩ = some (.int .i64 (-1)):=(blk_cell BK183.out 1).trans rfl;have hfz16_0:=blk_frozen BK183.out 0;have hfz16_1:=blk_frozen BK183.out 1) | ((with_reducible refine gate_builtin (b:=.append) (xs:=#[.tmp 35,.tmp 37]) rfl ?_);at_builtin;refine Kd.R_append k32 (w0:=w) w.heap.size rfl (.tmp 35) (.tmp 37) 24 32 (.agg #[(.int .i64 0),(.int .i64 0)]) 16 rfl Try.underlying24 info32 rfl (by decide) (by omega) u5 x5_1 (⟨x8_1,(-1)⟩:S32) [.int .i64 x8_1,.int .i64 (-1)] (fun k_=>k_ ≠ gb183) (fun _=>False) rfl rfl ?aP (fun _ hk=>hk.elim) ?aF ?aO ?aB ?aS ?aL ?_;(case aP=>exact k32_mkM _ _ _ (⟨x8_1,(-1)⟩:S32));(case aB=>exact (by repeat (first | (with_reducible first | exact HB.out | apply below_alloc | apply pw_below_drewN | apply below_drew1 | refine below_set ?_ GE183.out) | exact HB.out)));(case aF=>exact (fun k_ hk=>Kd.freshB (g:=gb183) (o:=.cells #[.int .i64 x8_1,.int .i64 (-1)] 32 (0,0)) (by (with_reducible repeat (first | refine blk_drewN ?_ _ | refine blk_drew ?_ | refine blk_alloc ?_ _));exact BK183.out) k_ hk));(case aO=>exact (by (with_reducible repeat (first | apply Kd.R_alloc | apply Kd.R_drewN | apply Kd.R_drew));exact Kd.R_mono HO_5.out (fun _ hk=>hk.2)));(case aS=>exact (below_size (by repeat (first | (with_reducible first | exact HB.out | apply below_alloc | apply pw_below_drewN | apply below_drew1 | refine below_set ?_ GE183.out) | exact HB.out))));(case aL=>have:=LMc11.out;omega);intro v186 w17 ho hb hg hat;rw [← Ny185.out] at ho;have n0_:=Aside0.mk (Kd.R_over' (by (with_reducible repeat (first | apply Kd.R_alloc | apply Kd.R_drewN | apply Kd.R_drew));exact HO_6.out) (Kd.R_typed (by (with_reducible repeat (first | apply Kd.R_alloc | apply Kd.R_drewN | apply Kd.R_drew));exact HO_5.out)) (by decide) hg);have n1_:=Aside0.mk (blk_grown (g:=gb183) (o:=.cells #[.int .i64 x8_1,.int .i64 (-1)] 32 (0,0)) (by (with_reducible repeat (first | refine blk_drewN ?_ _ | refine blk_drew ?_ | refine blk_alloc ?_ _));exact BK183.out) hg (Kd.R_away HO_5.out (fun _ hk=>hk.2)));have n2_:=Aside0.mk (hb);have n3_:=Aside0.mk (ho);clear HO_6;clear BK183;clear HB;clear HO_5;have HO_6:=n0_;have BK183:=n1_;have HB:=n2_;have HO187:=n3_;clear n0_ n1_ n2_ n3_;clear ho hb hg hat))
       go_roundg k1
       case measure=>have:=HK1.out;omega
       case rel=>exact ⟨(y185),(wrap64 (x8_1 + 1)),(by first | rfl | (simp;done) | (simp [*];done)),H',⟨by have:=HK1.out;omega⟩,⟨by (with_reducible repeat (first | apply Kd.R_alloc | apply Kd.R_drewN | apply Kd.R_drew));exact Kd.R_mono HO187.out (fun _ hk=>trivial)⟩,⟨by (with_reducible repeat (first | apply Kd.R_alloc | apply Kd.R_drewN | apply Kd.R_drew));exact HO_6.out⟩,⟨by repeat (first | (with_reducible first | exact HB.out | apply below_alloc | apply pw_below_drewN | apply below_drew1 | refine below_set ?_ GE183.out) | exact HB.out)⟩⟩
      ·rw [if_neg c11] at H
       exact absurd H (by simp)
     ·replace c10:=Bool.eq_false_iff.mpr c10
      subst c10
      have H1:(spec_HistoryMay.l0 k1 l0 x5_1 t179 (wrap64 (x8_1 + 1))) = some r:=by rw [if_neg (show ¬ (false = true) by decide)] at H;exact H
      clear H
      have H:=H1
      clear H1
      have H':=Aside0.mk H
      clear H
      go_wp2_with (first | ((with_reducible refine gate_dst (N:=9) rfl ?_);refine box_event ?hg (N:=9) ?hd (cs:=#[.int .i64 0,.int .i64 0]) (t:=32) ?hr ?_;(case hd=>rfl);(case hg=>rfl);(case hr=>first | (go_simp;done) | (go_simp;rfl));intro gb183 hg w18 hbox hb;have n0_:=Aside0.mk (Kd.R_below (Kd.R_elderB (by (with_reducible repeat (first | apply Kd.R_alloc | apply Kd.R_drewN | apply Kd.R_drew));exact HO_5.out) gb183 (Nat.le_of_eq hg.symm)) hb);have n1_:=Aside0.mk (Kd.R_below (by (with_reducible repeat (first | apply Kd.R_alloc | apply Kd.R_drewN | apply Kd.R_drew));exact HO_6.out) hb);have n2_:=Aside0.mk (below_step (by repeat (first | (with_reducible first | exact HB.out | apply below_alloc | apply pw_below_drewN | apply below_drew1) | exact HB.out)) hb);have n3_:=Aside0.mk (hbox);have n4_:=Aside0.mk ((by rw [hg];exact (below_size (by repeat (first | (with_reducible first | exact HB.out | apply below_alloc | apply pw_below_drewN | apply below_drew1) | exact HB.out))):w.heap.size ≤ gb183));have n5_:=Aside0.mk ((by rw [hg];exact (below_size (by repeat (first | (with_reducible first | exact HB.out | apply below_alloc | apply pw_below_drewN | apply below_drew1) | exact HB.out))):w.heap.size ≤ gb183));clear HO_5;clear HO_6;clear HB;have HO_5:=n0_;have HO_6:=n1_;have HB:=n2_;have BK183:=n3_;have GW183:=n4_;have GE183:=n5_;clear n0_ n1_ n2_ n3_ n4_ n5_;clear hb hbox hg;have hcz19_0:w18.cell? ⟨gb183,0,none⟩ = some (.int .i64 0):=(blk_cell BK183.out 0).trans rfl;have hcz19_1:w18.cell? ⟨gb183,1,none⟩ = some (.int .i64 0):=(blk_cell BK183.out 1).trans rfl;have hfz19_0:=blk_frozen BK183.out 0;have hfz19_1:=blk_frozen BK183.out 1;obtain ⟨Ao20,co20,eo20⟩:=Kd.R_slice HO_6.out;subst eo20) | ((with_reducible refine gate_callee (f:=64) rfl ?_);refine goesL_ (some 34) rfl rfl Try.func64 (by kernel_rfl) rfl #[.slice A0 l0.length c0,.slice Ao20 t179.length co20,.agg #[.int .i64 x8_1,.int .i64 (-1)]] rfl (by (try simp only [List.map_toArray,List.map_cons,List.map_nil]);first | done | rfl | (simp only [List.length_drop,List.length_take];rfl)) ?_;(with_reducible refine (spec_l19Can.calls k1 _ _ l0 _ _ t179 x8_1 (-1) false _ ?side1 ?side2 ?side3 ?side4 A9.out).mono ?_);(case side1=>exact Kd.C_below HR0.out (by repeat (first | (with_reducible first | exact HB.out | apply below_alloc | apply pw_below_drewN | apply below_drew1 | refine below_set ?_ GE183.out) | exact HB.out)));(case side2=>exact HC0.out);(case side3=>refine (Kd.R_reads' (e:=3) (base:=w.heap.size) (ok:=fun k_=>True) (n:=t179.length) (c:=co20) ?_).2.2;exact (by (with_reducible repeat (first | apply Kd.R_alloc | apply Kd.R_drewN | apply Kd.R_drew));exact (Kd.R_mono (Kd.R_far (p:=⟨gb183,1,none⟩) (Kd.R_far (p:=⟨gb183,0,none⟩) (Kd.R_types HO_6.out BK183.out (by decide)) (fun _ hk=>hk.2) (.int .i64 x8_1)) (fun _ hk=>hk.2) (.int .i64 (-1))) (fun _ h_=>h_.1))));(case side4=>exact (Kd.R_reads' HO_6.out).2.1);rintro e w21 ⟨rfl,hb⟩;refine ⟨_,rfl,?_⟩;have n0_:=Aside0.mk (Kd.R_below (by (with_reducible repeat (first | apply Kd.R_alloc | apply Kd.R_drewN | apply Kd.R_drew));exact (Kd.R_mono (Kd.R_far (p:=⟨gb183,1,none⟩) (Kd.R_far (p:=⟨gb183,0,none⟩) (Kd.R_mono HO_5.out (fun k_ hk=>(⟨hk,hk.2⟩:_∧k_ ≠ gb183))) (fun _ hk=>hk.2) (.int .i64 x8_1)) (fun _ hk=>hk.2) (.int .i64 (-1))) (fun _ h_=>h_.1))) hb);have n1_:=Aside0.mk (Kd.R_below (by (with_reducible repeat (first | apply Kd.R_alloc | apply Kd.R_drewN | apply Kd.R_drew));exact (Kd.R_mono (Kd.R_far (p:=⟨gb183,1,none⟩) (Kd.R_far (p:=⟨gb183,0,none⟩) (Kd.R_types HO_6.out BK183.out (by decide)) (fun _ hk=>hk.2) (.int .i64 x8_1)) (fun _ hk=>hk.2) (.int .i64 (-1))) (fun _ h_=>h_.1))) hb);have n2_:=Aside0.mk (blk_below (g:=gb183) (o:=.cells #[.int .i64 x8_1,.int .i64 (-1)] 32 (0,0)) (by (with_reducible repeat (first | refine blk_drewN ?_ _ | refine blk_drew ?_ | refine blk_alloc ?_ _));refine blk_put (cs:=#[.int .i64 x8_1,.int .i64 0]) ?_ 1 _ rfl;(with_reducible repeat (first | refine blk_drewN ?_ _ | refine blk_drew ?_ | refine blk_alloc ?_ _));refine blk_put (cs:=#[.int .i64 0,.int .i64 0]) ?_ 0 _ rfl;(with_reducible repeat (first | refine blk_drewN ?_ _ | refine blk_drew ?_ | refine blk_alloc ?_ _));exact BK183.out) hb);have n3_:=Aside0.mk (below_step (by repeat (first | (with_reducible first | exact HB.out | apply below_alloc | apply pw_below_drewN | apply below_drew1 | refine below_set ?_ GE183.out) | exact HB.out)) hb);clear HO_5;clear HO_6;clear BK183;clear HB;have HO_5:=n0_;have HO_6:=n1_;have BK183:=n2_;have HB:=n3_;clear n0_ n1_ n2_ n3_;(try clear hb);(try clear hb2);(try clear hk);(try clear hi)))
      go_roundg k1
      case measure=>have:=HK1.out;omega
      case rel=>exact ⟨(x5_1),(wrap64 (x8_1 + 1)),(by first | rfl | (simp;done) | (simp [*];done)),H',⟨by have:=HK1.out;omega⟩,⟨by (with_reducible repeat (first | apply Kd.R_alloc | apply Kd.R_drewN | apply Kd.R_drew));exact Kd.R_mono HO_5.out (fun _ hk=>trivial)⟩,⟨by (with_reducible repeat (first | apply Kd.R_alloc | apply Kd.R_drewN | apply Kd.R_drew));exact HO_6.out⟩,⟨by repeat (first | (with_reducible first | exact HB.out | apply below_alloc | apply pw_below_drewN | apply below_drew1 | refine below_set ?_ GE183.out) | exact HB.out)⟩⟩
    ·rw [if_neg c8] at H
     have c8b0:decide (x8_1 < (l0.length:Int)) = false:=decide_eq_false c8
     clear c8
     have H':=Aside0.mk H
     clear H
     go_wp2
     go_loopg [5,10] k1 (fun kq v5 v10 w'=>∃ (x5_2:List (S32)) (x10_2:Int),v10 = .int .i64 x10_2∧Aside0 (spec_HistoryMay.l1 kq l0 x5_2 t179 x10_2 = some r)∧Aside0 (kq ≤ k1)∧Aside0 (Kd.R k32 32 w' w.heap.size (fun _=>True) v5 x5_2)∧Aside0 (Kd.R (Kd.int .i64) 3 w' w.heap.size (fun _=>True) v181 t179)∧Aside0 (Below w.heap.size w w'))
     case atStart=>exact ⟨(x5_1),(0),(by first | rfl | (simp;done) | (simp [*];done)),H',⟨Nat.le_refl _⟩,⟨by (with_reducible repeat (first | apply Kd.R_alloc | apply Kd.R_drewN | apply Kd.R_drew));exact HO_5.out⟩,⟨by (with_reducible repeat (first | apply Kd.R_alloc | apply Kd.R_drewN | apply Kd.R_drew));exact HO_6.out⟩,⟨by repeat (first | (with_reducible first | exact HB.out | apply below_alloc | apply pw_below_drewN | apply below_drew1) | exact HB.out)⟩⟩
     case round =>
      clear H'
      try clear c1
      try clear c2
      try clear p2
      try clear c3
      try clear c4
      try clear c6
      try clear p6
      try clear c8
      try clear c8b0
      try clear c10
      try clear c11
      try clear c20
      try clear hcz13_0
      try clear hcz13_1
      try clear hcz16_0
      try clear hcz16_1
      try clear hcz19_0
      try clear hcz19_1
      try clear hfz13_0
      try clear hfz13_1
      try clear hfz16_0
      try clear hfz16_1
      try clear hfz19_0
      try clear hfz19_1
      try clear p2
      obtain ⟨x5_2,x10_2,rfl,HA,HK2,HO_5,HO_6,HB⟩:=hrel
      cases gk with
      | zero=>exact absurd HA.out (by simp [spec_HistoryMay.l1])
      | succ k2 =>
       have H:=HA.out
       clear HA
       simp only [spec_HistoryMay.l1] at H
       by_cases c22:x10_2 < (l0.length:Int)
       ·rw [if_pos c22] at H
        have c22b0:decide (x10_2 < (l0.length:Int)) = true:=decide_eq_true c22
        clear c22
        have H':=Aside0.mk H
        clear H
        go_wp2
        go_loopg [5,11] k2 (fun kq v5 v11 w'=>∃ (x5_3:List (S32)) (x11_3:Int),v11 = .int .i64 x11_3∧Aside0 (spec_HistoryMay.l2 kq l0 x5_3 t179 x10_2 x11_3 = some r)∧Aside0 (kq ≤ k2)∧Aside0 (Kd.R k32 32 w' w.heap.size (fun _=>True) v5 x5_3)∧Aside0 (Kd.R (Kd.int .i64) 3 w' w.heap.size (fun _=>True) v181 t179)∧Aside0 (Below w.heap.size w w'))
        case atStart=>exact ⟨(x5_2),(wrap64 (x10_2 + 1)),(by first | rfl | (simp;done) | (simp [*];done)),H',⟨Nat.le_refl _⟩,⟨by (with_reducible repeat (first | apply Kd.R_alloc | apply Kd.R_drewN | apply Kd.R_drew));exact HO_5.out⟩,⟨by (with_reducible repeat (first | apply Kd.R_alloc | apply Kd.R_drewN | apply Kd.R_drew));exact HO_6.out⟩,⟨by repeat (first | (with_reducible first | exact HB.out | apply below_alloc | apply pw_below_drewN | apply below_drew1) | exact HB.out)⟩⟩
        case round =>
         clear H'
         try clear c1
         try clear c2
         try clear p2
         try clear c3
         try clear c4
         try clear c6
         try clear p6
         try clear c8
         try clear c8b0
         try clear c10
         try clear c11
         try clear c20
         try clear c22
         try clear c22b0
         try clear hcz13_0
         try clear hcz13_1
         try clear hcz16_0
         try clear hcz16_1
         try clear hcz19_0
         try clear hcz19_1
         try clear hfz13_0
         try clear hfz13_1
         try clear hfz16_0
         try clear hfz16_1
         try clear hfz19_0
         try clear hfz19_1
         try clear p2
         try clear p6
         obtain ⟨x5_3,x11_3,rfl,HA,HK3,HO_5,HO_6,HB⟩:=hrel
         cases gk with
         | zero=>exact absurd HA.out (by simp [spec_HistoryMay.l2])
         | succ k3 =>
          have H:=HA.out
          clear HA
          simp only [spec_HistoryMay.l2] at H
          by_cases c23:x11_3 < (l0.length:Int)
          ·rw [if_pos c23] at H
           have c23b0:decide (x11_3 < (l0.length:Int)) = true:=decide_eq_true c23
           clear c23
           replace H:=Option.bind_eq_some_iff.mp H
           obtain ⟨t189,A240,H⟩:=H
           replace H:(if t189 = true then (if x5_3.length < 8796093022208 then (spec_HistoryMay.l2 k3 l0 (x5_3 ++ [(⟨x10_2,x11_3⟩:S32)]) t179 x10_2 (wrap64 (x11_3 + 1))) else (none)) else (spec_HistoryMay.l2 k3 l0 x5_3 t179 x10_2 (wrap64 (x11_3 + 1)))) = some r:=H
           have A24:=Aside0.mk A240
           clear A240
           by_cases c25:t189 = true
           ·subst c25
            have H1:(if x5_3.length < 8796093022208 then (spec_HistoryMay.l2 k3 l0 (x5_3 ++ [(⟨x10_2,x11_3⟩:S32)]) t179 x10_2 (wrap64 (x11_3 + 1))) else (none)) = some r:=by rw [if_pos rfl] at H;exact H
            clear H
            have H:=H1
            clear H1
            by_cases c26:x5_3.length < 8796093022208
            ·rw [if_pos c26] at H
             have LMc26:=Aside0.mk c26
             clear c26
             obtain ⟨y190,hy190⟩:∃ y_:List (S32),y_ = (x5_3 ++ [(⟨x10_2,x11_3⟩:S32)]):=⟨_,rfl⟩
             replace H:(spec_HistoryMay.l2 k3 l0 y190 t179 x10_2 (wrap64 (x11_3 + 1))) = some r:=by first | (rw [hy190];with_reducible exact H) | (have H2_:=(Option.bind_some _ _).symm.trans H;rw [hy190];with_reducible exact H2_) | (have H2_:=(Option.bind_some _ _).symm.trans H;with_reducible exact H2_) | with_reducible exact H | (rw [hy190];exact H) | exact H
             have Ny190:=Aside0.mk hy190
             clear hy190
             have H':=Aside0.mk H
             clear H
             go_wp2_with (first | ((with_reducible refine gate_dst (N:=12) rfl ?_);refine box_event ?hg (N:=12) ?hd (cs:=#[.int .i64 0,.int .i64 0]) (t:=32) ?hr ?_;(case hd=>rfl);(case hg=>rfl);(case hr=>first | (go_simp;done) | (go_simp;rfl));intro gb188 hg w27 hbox hb;have n0_:=Aside0.mk (Kd.R_below (Kd.R_elderB (by (with_reducible repeat (first | apply Kd.R_alloc | apply Kd.R_drewN | apply Kd.R_drew));exact HO_5.out) gb188 (Nat.le_of_eq hg.symm)) hb);have n1_:=Aside0.mk (Kd.R_below (by (with_reducible repeat (first | apply Kd.R_alloc | apply Kd.R_drewN | apply Kd.R_drew));exact HO_6.out) hb);have n2_:=Aside0.mk (below_step (by repeat (first | (with_reducible first | exact HB.out | apply below_alloc | apply pw_below_drewN | apply below_drew1) | exact HB.out)) hb);have n3_:=Aside0.mk (hbox);have n4_:=Aside0.mk ((by rw [hg];exact (below_size (by repeat (first | (with_reducible first | exact HB.out | apply below_alloc | apply pw_below_drewN | apply below_drew1) | exact HB.out))):w.heap.size ≤ gb188));have n5_:=Aside0.mk ((by rw [hg];exact (below_size (by repeat (first | (with_reducible first | exact HB.out | apply below_alloc | apply pw_below_drewN | apply below_drew1) | exact HB.out))):w.heap.size ≤ gb188));clear HO_5;clear HO_6;clear HB;have HO_5:=n0_;have HO_6:=n1_;have HB:=n2_;have BK188:=n3_;have GW188:=n4_;have GE188:=n5_;clear n0_ n1_ n2_ n3_ n4_ n5_;clear hb hbox hg;have hcz28_0:w27.cell? ⟨gb188,0,none⟩ = some (.int .i64 0):=(blk_cell BK188.out 0).trans rfl;have hcz28_1:w27.cell? ⟨gb188,1,none⟩ = some (.int .i64 0):=(blk_cell BK188.out 1).trans rfl;have hfz28_0:=blk_frozen BK188.out 0;have hfz28_1:=blk_frozen BK188.out 1;obtain ⟨Ao29,co29,eo29⟩:=Kd.R_slice HO_6.out;subst eo29) | ((with_reducible refine gate_callee (f:=64) rfl ?_);refine goesL_ (some 59) rfl rfl Try.func64 (by kernel_rfl) rfl #[.slice A0 l0.length c0,.slice Ao29 t179.length co29,.agg #[.int .i64 x10_2,.int .i64 x11_3]] rfl (by (try simp only [List.map_toArray,List.map_cons,List.map_nil]);first | done | rfl | (simp only [List.length_drop,List.length_take];rfl)) ?_;(with_reducible refine (spec_l19Can.calls k3 _ _ l0 _ _ t179 x10_2 x11_3 true _ ?side1 ?side2 ?side3 ?side4 A24.out).mono ?_);(case side1=>exact Kd.C_below HR0.out (by repeat (first | (with_reducible first | exact HB.out | apply below_alloc | apply pw_below_drewN | apply below_drew1 | refine below_set ?_ GE188.out) | exact HB.out)));(case side2=>exact HC0.out);(case side3=>refine (Kd.R_reads' (e:=3) (base:=w.heap.size) (ok:=fun k_=>True) (n:=t179.length) (c:=co29) ?_).2.2;exact (by (with_reducible repeat (first | apply Kd.R_alloc | apply Kd.R_drewN | apply Kd.R_drew));exact (Kd.R_mono (Kd.R_far (p:=⟨gb188,1,none⟩) (Kd.R_far (p:=⟨gb188,0,none⟩) (Kd.R_types HO_6.out BK188.out (by decide)) (fun _ hk=>hk.2) (.int .i64 x10_2)) (fun _ hk=>hk.2) (.int .i64 x11_3)) (fun _ h_=>h_.1))));(case side4=>exact (Kd.R_reads' HO_6.out).2.1);rintro e w30 ⟨rfl,hb⟩;refine ⟨_,rfl,?_⟩;have n0_:=Aside0.mk (Kd.R_below (by (with_reducible repeat (first | apply Kd.R_alloc | apply Kd.R_drewN | apply Kd.R_drew));exact (Kd.R_mono (Kd.R_far (p:=⟨gb188,1,none⟩) (Kd.R_far (p:=⟨gb188,0,none⟩) (Kd.R_mono HO_5.out (fun k_ hk=>(⟨hk,hk.2⟩:_∧k_ ≠ gb188))) (fun _ hk=>hk.2) (.int .i64 x10_2)) (fun _ hk=>hk.2) (.int .i64 x11_3)) (fun _ h_=>h_.1))) hb);have n1_:=Aside0.mk (Kd.R_below (by (with_reducible repeat (first | apply Kd.R_alloc | apply Kd.R_drewN | apply Kd.R_drew));exact (Kd.R_mono (Kd.R_far (p:=⟨gb188,1,none⟩) (Kd.R_far (p:=⟨gb188,0,none⟩) (Kd.R_types HO_6.out BK188.out (by decide)) (fun _ hk=>hk.2) (.int .i64 x10_2)) (fun _ hk=>hk.2) (.int .i64 x11_3)) (fun _ h_=>h_.1))) hb);have n2_:=Aside0.mk (blk_below (g:=gb188) (o:=.cells #[.int .i64 x10_2,.int .i64 x11_3] 32 (0,0)) (by (with_reducible repeat (first | refine blk_drewN ?_ _ | refine blk_drew ?_ | refine blk_alloc ?_ _));refine blk_put (cs:=#[.int .i64 x10_2,.int .i64 0]) ?_ 1 _ rfl;(with_reducible repeat (first | refine blk_drewN ?_ _ | refine blk_drew ?_ | refine blk_alloc ?_ _));refine blk_put (cs:=#[.int .i64 0,.int .i64 0]) ?_ 0 _ rfl;(with_reducible repeat (first | refine blk_drewN ?_ _ | refine blk_drew ?_ | refine blk_alloc ?_ _));exact BK188.out) hb);have n3_:=Aside0.mk (below_step (by repeat (first | (with_reducible first | exact HB.out | apply below_alloc | apply pw_below_drewN | apply below_drew1 | refine below_set ?_ GE188.out) | exact HB.out)) hb);clear HO_5;clear HO_6;clear BK188;clear HB;have HO_5:=n0_;have HO_6:=n1_;have BK188:=n2_;have HB:=n3_;clear n0_ n1_ n2_ n3_;(try clear hb);(try clear hb2);(try clear hk);(try clear hi);have hcz31_0:w30.cell? ⟨gb188,0,none⟩ = some (.int .i64 x10_2):=(blk_cell BK188.out 0).trans rfl;have hcz31_1:w30.cell? ⟨gb188,1,none⟩ = some (.int .i64 x11_3):=(blk_cell BK188.out 1).trans rfl;have hfz31_0:=blk_frozen BK188.out 0;have hfz31_1:=blk_frozen BK188.out 1) | ((with_reducible refine gate_builtin (b:=.append) (xs:=#[.tmp 60,.tmp 62]) rfl ?_);at_builtin;refine Kd.R_append k32 (w0:=w) w.heap.size rfl (.tmp 60) (.tmp 62) 24 32 (.agg #[(.int .i64 0),(.int .i64 0)]) 16 rfl Try.underlying24 info32 rfl (by decide) (by omega) u5 x5_3 (⟨x10_2,x11_3⟩:S32) [.int .i64 x10_2,.int .i64 x11_3] (fun k_=>k_ ≠ gb188) (fun _=>False) rfl rfl ?aP (fun _ hk=>hk.elim) ?aF ?aO ?aB ?aS ?aL ?_;(case aP=>exact k32_mkM _ _ _ (⟨x10_2,x11_3⟩:S32));(case aB=>exact (by repeat (first | (with_reducible first | exact HB.out | apply below_alloc | apply pw_below_drewN | apply below_drew1 | refine below_set ?_ GE188.out) | exact HB.out)));(case aF=>exact (fun k_ hk=>Kd.freshB (g:=gb188) (o:=.cells #[.int .i64 x10_2,.int .i64 x11_3] 32 (0,0)) (by (with_reducible repeat (first | refine blk_drewN ?_ _ | refine blk_drew ?_ | refine blk_alloc ?_ _));exact BK188.out) k_ hk));(case aO=>exact (by (with_reducible repeat (first | apply Kd.R_alloc | apply Kd.R_drewN | apply Kd.R_drew));exact Kd.R_mono HO_5.out (fun _ hk=>hk.2)));(case aS=>exact (below_size (by repeat (first | (with_reducible first | exact HB.out | apply below_alloc | apply pw_below_drewN | apply below_drew1 | refine below_set ?_ GE188.out) | exact HB.out))));(case aL=>have:=LMc26.out;omega);intro v191 w32 ho hb hg hat;rw [← Ny190.out] at ho;have n0_:=Aside0.mk (Kd.R_over' (by (with_reducible repeat (first | apply Kd.R_alloc | apply Kd.R_drewN | apply Kd.R_drew));exact HO_6.out) (Kd.R_typed (by (with_reducible repeat (first | apply Kd.R_alloc | apply Kd.R_drewN | apply Kd.R_drew));exact HO_5.out)) (by decide) hg);have n1_:=Aside0.mk (blk_grown (g:=gb188) (o:=.cells #[.int .i64 x10_2,.int .i64 x11_3] 32 (0,0)) (by (with_reducible repeat (first | refine blk_drewN ?_ _ | refine blk_drew ?_ | refine blk_alloc ?_ _));exact BK188.out) hg (Kd.R_away HO_5.out (fun _ hk=>hk.2)));have n2_:=Aside0.mk (hb);have n3_:=Aside0.mk (ho);clear HO_6;clear BK188;clear HB;clear HO_5;have HO_6:=n0_;have BK188:=n1_;have HB:=n2_;have HO192:=n3_;clear n0_ n1_ n2_ n3_;clear ho hb hg hat))
             go_roundg k3
             case measure=>have:=HK1.out;have:=HK2.out;have:=HK3.out;omega
             case rel=>exact ⟨(y190),(wrap64 (x11_3 + 1)),(by first | rfl | (simp;done) | (simp [*];done)),H',⟨by have:=HK1.out;have:=HK2.out;have:=HK3.out;omega⟩,⟨by (with_reducible repeat (first | apply Kd.R_alloc | apply Kd.R_drewN | apply Kd.R_drew));exact Kd.R_mono HO192.out (fun _ hk=>trivial)⟩,⟨by (with_reducible repeat (first | apply Kd.R_alloc | apply Kd.R_drewN | apply Kd.R_drew));exact HO_6.out⟩,⟨by repeat (first | (with_reducible first | exact HB.out | apply below_alloc | apply pw_below_drewN | apply below_drew1 | refine below_set ?_ GE188.out) | exact HB.out)⟩⟩
            ·rw [if_neg c26] at H
             exact absurd H (by simp)
           ·replace c25:=Bool.eq_false_iff.mpr c25
            subst c25
            have H1:(spec_HistoryMay.l2 k3 l0 x5_3 t179 x10_2 (wrap64 (x11_3 + 1))) = some r:=by rw [if_neg (show ¬ (false = true) by decide)] at H;exact H
            clear H
            have H:=H1
            clear H1
            have H':=Aside0.mk H
            clear H
            go_wp2_with (first | ((with_reducible refine gate_dst (N:=12) rfl ?_);refine box_event ?hg (N:=12) ?hd (cs:=#[.int .i64 0,.int .i64 0]) (t:=32) ?hr ?_;(case hd=>rfl);(case hg=>rfl);(case hr=>first | (go_simp;done) | (go_simp;rfl));intro gb188 hg w33 hbox hb;have n0_:=Aside0.mk (Kd.R_below (Kd.R_elderB (by (with_reducible repeat (first | apply Kd.R_alloc | apply Kd.R_drewN | apply Kd.R_drew));exact HO_5.out) gb188 (Nat.le_of_eq hg.symm)) hb);have n1_:=Aside0.mk (Kd.R_below (by (with_reducible repeat (first | apply Kd.R_alloc | apply Kd.R_drewN | apply Kd.R_drew));exact HO_6.out) hb);have n2_:=Aside0.mk (below_step (by repeat (first | (with_reducible first | exact HB.out | apply below_alloc | apply pw_below_drewN | apply below_drew1) | exact HB.out)) hb);have n3_:=Aside0.mk (hbox);have n4_:=Aside0.mk ((by rw [hg];exact (below_size (by repeat (first | (with_reducible first | exact HB.out | apply below_alloc | apply pw_below_drewN | apply below_drew1) | exact HB.out))):w.heap.size ≤ gb188));have n5_:=Aside0.mk ((by rw [hg];exact (below_size (by repeat (first | (with_reducible first | exact HB.out | apply below_alloc | apply pw_below_drewN | apply below_drew1) | exact HB.out))):w.heap.size ≤ gb188));clear HO_5;clear HO_6;clear HB;have HO_5:=n0_;have HO_6:=n1_;have HB:=n2_;have BK188:=n3_;have GW188:=n4_;have GE188:=n5_;clear n0_ n1_ n2_ n3_ n4_ n5_;clear hb hbox hg;have hcz34_0:w33.cell? ⟨gb188,0,none⟩ = some (.int .i64 0):=(blk_cell BK188.out 0).trans rfl;have hcz34_1:w33.cell? ⟨gb188,1,none⟩ = some (.int .i64 0):=(blk_cell BK188.out 1).trans rfl;have hfz34_0:=blk_frozen BK188.out 0;have hfz34_1:=blk_frozen BK188.out 1;obtain ⟨Ao35,co35,eo35⟩:=Kd.R_slice HO_6.out;subst eo35) | ((with_reducible refine gate_callee (f:=64) rfl ?_);refine goesL_ (some 59) rfl rfl Try.func64 (by kernel_rfl) rfl #[.slice A0 l0.length c0,.slice Ao35 t179.length co35,.agg #[.int .i64 x10_2,.int .i64 x11_3]] rfl (by (try simp only [List.map_toArray,List.map_cons,List.map_nil]);first | done | rfl | (simp only [List.length_drop,List.length_take];rfl)) ?_;(with_reducible refine (spec_l19Can.calls k3 _ _ l0 _ _ t179 x10_2 x11_3 false _ ?side1 ?side2 ?side3 ?side4 A24.out).mono ?_);(case side1=>exact Kd.C_below HR0.out (by repeat (first | (with_reducible first | exact HB.out | apply below_alloc | apply pw_below_drewN | apply below_drew1 | refine below_set ?_ GE188.out) | exact HB.out)));(case side2=>exact HC0.out);(case side3=>refine (Kd.R_reads' (e:=3) (base:=w.heap.size) (ok:=fun k_=>True) (n:=t179.length) (c:=co35) ?_).2.2;exact (by (with_reducible repeat (first | apply Kd.R_alloc | apply Kd.R_drewN | apply Kd.R_drew));exact (Kd.R_mono (Kd.R_far (p:=⟨gb188,1,none⟩) (Kd.R_far (p:=⟨gb188,0,none⟩) (Kd.R_types HO_6.out BK188.out (by decide)) (fun _ hk=>hk.2) (.int .i64 x10_2)) (fun _ hk=>hk.2) (.int .i64 x11_3)) (fun _ h_=>h_.1))));(case side4=>exact (Kd.R_reads' HO_6.out).2.1);rintro e w36 ⟨rfl,hb⟩;refine ⟨_,rfl,?_⟩;have n0_:=Aside0.mk (Kd.R_below (by (with_reducible repeat (first | apply Kd.R_alloc | apply Kd.R_drewN | apply Kd.R_drew));exact (Kd.R_mono (Kd.R_far (p:=⟨gb188,1,none⟩) (Kd.R_far (p:=⟨gb188,0,none⟩) (Kd.R_mono HO_5.out (fun k_ hk=>(⟨hk,hk.2⟩:_∧k_ ≠ gb188))) (fun _ hk=>hk.2) (.int .i64 x10_2)) (fun _ hk=>hk.2) (.int .i64 x11_3)) (fun _ h_=>h_.1))) hb);have n1_:=Aside0.mk (Kd.R_below (by (with_reducible repeat (first | apply Kd.R_alloc | apply Kd.R_drewN | apply Kd.R_drew));exact (Kd.R_mono (Kd.R_far (p:=⟨gb188,1,none⟩) (Kd.R_far (p:=⟨gb188,0,none⟩) (Kd.R_types HO_6.out BK188.out (by decide)) (fun _ hk=>hk.2) (.int .i64 x10_2)) (fun _ hk=>hk.2) (.int .i64 x11_3)) (fun _ h_=>h_.1))) hb);have n2_:=Aside0.mk (blk_below (g:=gb188) (o:=.cells #[.int .i64 x10_2,.int .i64 x11_3] 32 (0,0)) (by (with_reducible repeat (first | refine blk_drewN ?_ _ | refine blk_drew ?_ | refine blk_alloc ?_ _));refine blk_put (cs:=#[.int .i64 x10_2,.int .i64 0]) ?_ 1 _ rfl;(with_reducible repeat (first | refine blk_drewN ?_ _ | refine blk_drew ?_ | refine blk_alloc ?_ _));refine blk_put (cs:=#[.int .i64 0,.int .i64 0]) ?_ 0 _ rfl;(with_reducible repeat (first | refine blk_drewN ?_ _ | refine blk_drew ?_ | refine blk_alloc ?_ _));exact BK188.out) hb);have n3_:=Aside0.mk (below_step (by repeat (first | (with_reducible first | exact HB.out | apply below_alloc | apply pw_below_drewN | apply below_drew1 | refine below_set ?_ GE188.out) | exact HB.out)) hb);clear HO_5;clear HO_6;clear BK188;clear HB;have HO_5:=n0_;have HO_6:=n1_;have BK188:=n2_;have HB:=n3_;clear n0_ n1_ n2_ n3_;(try clear hb);(try clear hb2);(try clear hk);(try clear hi)))
            go_roundg k3
            case measure=>have:=HK1.out;have:=HK2.out;have:=HK3.out;omega
            case rel=>exact ⟨(x5_3),(wrap64 (x11_3 + 1)),(by first | rfl | (simp;done) | (simp [*];done)),H',⟨by have:=HK1.out;have:=HK2.out;have:=HK3.out;omega⟩,⟨by (with_reducible repeat (first | apply Kd.R_alloc | apply Kd.R_drewN | apply Kd.R_drew));exact Kd.R_mono HO_5.out (fun _ hk=>trivial)⟩,⟨by (with_reducible repeat (first | apply Kd.R_alloc | apply Kd.R_drewN | apply Kd.R_drew));exact HO_6.out⟩,⟨by repeat (first | (with_reducible first | exact HB.out | apply below_alloc | apply pw_below_drewN | apply below_drew1 | refine below_set ?_ GE188.out) | exact HB.out)⟩⟩
          ·rw [if_neg c23] at H
           have c23b0:decide (x11_3 < (l0.length:Int)) = false:=decide_eq_false c23
           clear c23
           have H':=Aside0.mk H
           clear H
           go_wp2
           go_roundg k3
           case measure=>have:=HK1.out;have:=HK2.out;have:=HK3.out;omega
           case rel=>exact ⟨(x5_3),(wrap64 (x10_2 + 1)),(by first | rfl | (simp;done) | (simp [*];done)),H',⟨by have:=HK1.out;have:=HK2.out;have:=HK3.out;omega⟩,⟨by (with_reducible repeat (first | apply Kd.R_alloc | apply Kd.R_drewN | apply Kd.R_drew));exact HO_5.out⟩,⟨by (with_reducible repeat (first | apply Kd.R_alloc | apply Kd.R_drewN | apply Kd.R_drew));exact HO_6.out⟩,⟨by repeat (first | (with_reducible first | exact HB.out | apply below_alloc | apply pw_below_drewN | apply below_drew1) | exact HB.out)⟩⟩
       ·rw [if_neg c22] at H
        have c22b0:decide (x10_2 < (l0.length:Int)) = false:=decide_eq_false c22
        clear c22
        obtain rfl:=Option.some.inj H
        go_wp2
        go_ret
        exact ⟨_,by first | rfl | (simp [errW_none,errW_some] <;> rfl) | (simp [*,errW_none,errW_some] <;> rfl),by (with_reducible repeat (first | apply Kd.R_alloc | apply Kd.R_drewN | apply Kd.R_drew));exact HO_5.out,by repeat (first | (with_reducible first | exact HB.out | apply below_alloc | apply pw_below_drewN | apply below_drew1) | exact HB.out)⟩
 ·replace c4:=Bool.eq_false_iff.mpr c4
  subst c4
  have H1:(some y176) = some r:=by rw [if_neg (show ¬ (false = true) by decide)] at H;exact H
  clear H
  have H:=H1
  clear H1
  obtain rfl:=Option.some.inj H
  go_enter Try.func33,Try.ntmps33
  go_wp2_with (first | ((with_reducible refine gate_dst (N:=13) rfl ?_);refine Kd.R_lit k32 _ 32 ?hg (N:=13) ?hd (xs:=([]:List (S32))) (inner:=[]) (ok:=fun _=>True) (okp:=fun _=>True) ?hr ?hp (fun _ hk=>hk) trivial (Below.refl _ _) (Nat.le_refl _) (by simp) ?_;(case hd=>rfl);(case hg=>rfl);(case hr=>first | (go_simp;done) | (go_simp;rfl));(case hp=>exact (Reps.none _ _));intro v177 w37 ho38 hb hg_ hnew_;clear hg_ hnew_;(first | rw [← Ny176.out] at ho38 | (simp only [Int.reduceToNat] at ho38;rw [← Ny176.out] at ho38));have n0_:=Aside0.mk (Kd.R_lower ho38 (below_size (by repeat (first | (with_reducible first | exact HB.out | apply below_alloc | apply pw_below_drewN | apply below_drew1) | exact HB.out))));have n1_:=Aside0.mk (below_step (by repeat (first | (with_reducible first | exact HB.out | apply below_alloc | apply pw_below_drewN | apply below_drew1) | exact HB.out)) hb);clear HB;have HO178:=n0_;have HB:=n1_;clear n0_ n1_;clear hb ho38) | ((with_reducible refine gate_callee (f:=20) rfl ?_);refine goesL_ (some 17) rfl rfl Try.func20 (by kernel_rfl) rfl #[.slice A0 l0.length c0,.slice A1 l1.length c1] rfl (by (try simp only [List.map_toArray,List.map_cons,List.map_nil]);first | done | rfl | (simp only [List.length_drop,List.length_take];rfl)) ?_;(with_reducible refine (spec_HistoryAt.calls k _ _ l0 _ _ l1 t179 false _ ?side1 ?side2 ?side3 ?side4 A3.out).mono ?_);(case side1=>repeat (first | exact (Kd.C_below HR0.out HB.out) | (with_reducible refine Kd.C_alloc ?_ _) | (with_reducible refine Kd.C_drewN ?_ _) | (with_reducible refine Kd.C_drew ?_)));(case side2=>exact HC0.out);(case side3=>repeat (first | exact (Kd.C_below HR1.out HB.out) | (with_reducible refine Kd.C_alloc ?_ _) | (with_reducible refine Kd.C_drewN ?_ _) | (with_reducible refine Kd.C_drew ?_)));(case side4=>exact HC1.out);rintro e w39 ⟨v181,rfl,ho0,hb⟩;refine ⟨_,rfl,?_⟩;have n0_:=Aside0.mk (Kd.R_below (by (with_reducible repeat (first | apply Kd.R_alloc | apply Kd.R_drewN | apply Kd.R_drew));exact HO178.out) hb);have n1_:=Aside0.mk (Kd.R_lower ho0 (below_size (by repeat (first | (with_reducible first | exact HB.out | apply below_alloc | apply pw_below_drewN | apply below_drew1) | exact HB.out))));have n2_:=Aside0.mk (below_step (by repeat (first | (with_reducible first | exact HB.out | apply below_alloc | apply pw_below_drewN | apply below_drew1) | exact HB.out)) hb);clear HO178;clear HB;have HO178:=n0_;have HO182:=n1_;have HB:=n2_;clear n0_ n1_ n2_;(try clear hb);(try clear hb2);(try clear hk);(try clear hi);(try clear ho0)))
  go_ret
  exact ⟨_,by first | rfl | (simp [errW_none,errW_some] <;> rfl) | (simp [*,errW_none,errW_some] <;> rfl),by (with_reducible repeat (first | apply Kd.R_alloc | apply Kd.R_drewN | apply Kd.R_drew));exact HO178.out,by repeat (first | (with_reducible first | exact HB.out | apply below_alloc | apply pw_below_drewN | apply below_drew1) | exact HB.out)⟩
def spec_l6Open.f (l0:List Int):Option (List Int × Int):=if (l0.length:Int) > 2000 then (if 2000 ≤ (l0.length:Int) then (some (l0.take 2000,0)) else (none)) else (some (l0,0))
set_option maxHeartbeats 8000000 in
set_option maxRecDepth 100000 in
theorem spec_l6Open.calls (A0:Option Addr) (c0:Nat) (l0:List Int) (r1:List Int) (r2:Int) (w0 w:World) (hB:Below w0.heap.size w0 w) (hr0:Kd.C (Kd.int .u8) w0 A0 l0.length l0) (hc0:l0.length ≤ c0) (h:spec_l6Open.f l0 = some (r1,r2)) :
  Calls Try.prog 53 #[.slice A0 l0.length c0] w fun e w'=>∃ g_:Nat,e = .returned (.pointer (some ⟨g_,0,none⟩))∧IsS86 w0 w' g_ r1 r2∧Below w0.heap.size w0 w'∧Below w.heap.size w w':=by
 have hu86:=Try.underlying86
 have HR0:=Aside0.mk hr0
 have HC0:=Aside0.mk hc0
 clear hr0 hc0
 have HBW:=Aside0.mk (Below.refl w.heap.size w)
 have HW0:=Aside0.mk hB.size
 have HB:=Aside0.mk hB
 clear hB
 have H:(if (l0.length:Int) > 2000 then (if 2000 ≤ (l0.length:Int) then (some (l0.take 2000,0)) else (none)) else (some (l0,0))) = some (r1,r2):=h
 clear h
 by_cases c2:(l0.length:Int) > 2000
 ·rw [if_pos c2] at H
  have c2b0:decide (2000 < (l0.length:Int)) = true:=decide_eq_true c2
  have c2b1:decide (2000 < l0.length) = true:=decide_eq_true (by omega)
  clear c2
  by_cases c3:2000 ≤ (l0.length:Int)
  ·rw [if_pos c3] at H
   have c3b0:=eq_true c3
   have c3b1:decide (2000 ≤ (l0.length:Int)) = true:=decide_eq_true c3
   clear c3
   simp only [Option.some.injEq,Prod.mk.injEq] at H
   obtain ⟨rfl,rfl⟩:=H
   obtain ⟨i04,hi04,_,hsz4,_⟩:=info_parts info5
   obtain ⟨hcut4,hA4,hC4⟩:=print_take_of (P:=Try.prog) (Value.int .u8) 0 22 5 .i64 Try.underlying22 hi04 hsz4 A0 c0 l0 2000 (by omega) (of_decide_eq_true (by first | (with_reducible assumption) | assumption)) HC0.out
   have HR101:=Aside0.mk (Kd.C_of_reads (h1:=fun _=>rfl) (hA4 _ (Kd.reads_of_C HR0.out)))
   have HC101:=Aside0.mk hC4
   clear hA4 hC4 hi04 hsz4
   go_enter Try.func53,Try.ntmps53
   go_wp2_with (first | ((with_reducible refine gate_dst (N:=10) rfl ?_);refine box_event ?hg (N:=10) ?hd (cs:=#[.slice A0 (l0.take 2000).length c0,.int .i64 0]) (t:=86) ?hr ?_;(case hd=>rfl);(case hg=>rfl);(case hr=>first | (go_simp;done) | (go_simp;rfl));intro gb102 hg w5 hbox hb;have n0_:=Aside0.mk (below_step HBW.out hb);have n1_:=Aside0.mk (below_step (by repeat (first | (with_reducible first | exact HB.out | apply below_alloc | apply pw_below_drewN | apply below_drew1) | exact HB.out)) hb);have n2_:=Aside0.mk (hbox);have n3_:=Aside0.mk ((by rw [hg];exact (below_size (by repeat (first | (with_reducible first | exact HBW.out | apply below_alloc | apply pw_below_drewN | apply below_drew1) | exact HBW.out))):w.heap.size ≤ gb102));have n4_:=Aside0.mk ((Nat.le_trans HW0.out (by rw [hg];exact (below_size (by repeat (first | (with_reducible first | exact HBW.out | apply below_alloc | apply pw_below_drewN | apply below_drew1) | exact HBW.out))):w.heap.size ≤ gb102):w0.heap.size ≤ gb102));clear HBW;clear HB;have HBW:=n0_;have HB:=n1_;have BK102:=n2_;have GW102:=n3_;have GE102:=n4_;clear n0_ n1_ n2_ n3_ n4_;clear hb hbox hg))
   go_ret
   exact ⟨_,rfl,(show IsS86 w0 _ gb102 (l0.take 2000) 0 from ⟨_,_,by (with_reducible repeat (first | refine blk_drewN ?_ _ | refine blk_drew ?_ | refine blk_alloc ?_ _));exact BK102.out,GE102.out,HR101.out⟩),by repeat (first | (with_reducible first | exact HB.out | apply below_alloc | apply pw_below_drewN | apply below_drew1 | refine below_set ?_ GE102.out) | exact HB.out),by repeat (first | (with_reducible first | exact HBW.out | apply below_alloc | apply pw_below_drewN | apply below_drew1 | refine below_set ?_ GW102.out) | exact HBW.out)⟩
  ·rw [if_neg c3] at H
   exact absurd H (by simp)
 ·rw [if_neg c2] at H
  have c2b0:decide (2000 < (l0.length:Int)) = false:=decide_eq_false c2
  have c2b1:decide (2000 < l0.length) = false:=decide_eq_false (by omega)
  clear c2
  simp only [Option.some.injEq,Prod.mk.injEq] at H
  obtain ⟨rfl,rfl⟩:=H
  go_enter Try.func53,Try.ntmps53
  go_wp2_with (first | ((with_reducible refine gate_dst (N:=10) rfl ?_);refine box_event ?hg (N:=10) ?hd (cs:=#[.slice A0 l0.length c0,.int .i64 0]) (t:=86) ?hr ?_;(case hd=>rfl);(case hg=>rfl);(case hr=>first | (go_simp;done) | (go_simp;rfl));intro gb103 hg w6 hbox hb;have n0_:=Aside0.mk (below_step HBW.out hb);have n1_:=Aside0.mk (below_step (by repeat (first | (with_reducible first | exact HB.out | apply below_alloc | apply pw_below_drewN | apply below_drew1) | exact HB.out)) hb);have n2_:=Aside0.mk (hbox);have n3_:=Aside0.mk ((by rw [hg];exact (below_size (by repeat (first | (with_reducible first | exact HBW.out | apply below_alloc | apply pw_below_drewN | apply below_drew1) | exact HBW.out))):w.heap.size ≤ gb103));have n4_:=Aside0.mk ((Nat.le_trans HW0.out (by rw [hg];exact (below_size (by repeat (first | (with_reducible first | exact HBW.out | apply below_alloc | apply pw_below_drewN | apply below_drew1) | exact HBW.out))):w.heap.size ≤ gb103):w0.heap.size ≤ gb103));clear HBW;clear HB;have HBW:=n0_;have HB:=n1_;have BK103:=n2_;have GW103:=n3_;have GE103:=n4_;clear n0_ n1_ n2_ n3_ n4_;clear hb hbox hg))
  go_ret
  exact ⟨_,rfl,(show IsS86 w0 _ gb103 l0 0 from ⟨_,_,by (with_reducible repeat (first | refine blk_drewN ?_ _ | refine blk_drew ?_ | refine blk_alloc ?_ _));exact BK103.out,GE103.out,HR0.out⟩),by repeat (first | (with_reducible first | exact HB.out | apply below_alloc | apply pw_below_drewN | apply below_drew1 | refine below_set ?_ GE103.out) | exact HB.out),by repeat (first | (with_reducible first | exact HBW.out | apply below_alloc | apply pw_below_drewN | apply below_drew1 | refine below_set ?_ GW103.out) | exact HBW.out)⟩
def spec_l6Rd_pick.j0:Nat → Int → Bool → List Int → Int → Option (Int × Int)
 | 0,_,_,_,_=>none
 | k + 1,x1,x24,x1000,x1001=>if x24 = true then (some (0,x1001)) else (if (wrap64 (x1001 - 1)) < (x1000.length:Int) then (if 0 ≤ (wrap64 (x1001 - 1)) then (if x1 = 0 then (none) else (some (Int.tmod (wrap64 (rd x1000 (wrap64 (x1001 - 1)))) x1,x1001))) else (none)) else (if (x1000.length:Int) = 0 then (none) else (if 0 ≤ (Int.tmod (wrap64 (x1001 - 1)) (x1000.length:Int)) then (if (Int.tmod (wrap64 (x1001 - 1)) (x1000.length:Int)) < (x1000.length:Int) then (if 0 ≤ (Int.tmod (wrap64 ((wrap64 ((wrap64 (x1001 - 1)) * 7)) + 3)) (x1000.length:Int)) then (if (Int.tmod (wrap64 ((wrap64 ((wrap64 (x1001 - 1)) * 7)) + 3)) (x1000.length:Int)) < (x1000.length:Int) then (if x1 = 0 then (none) else (some (Int.tmod (Go.bits .xor .i64 (wrap64 ((wrap64 ((wrap64 ((wrap64 ((wrap64 (rd x1000 (Int.tmod (wrap64 (x1001 - 1)) (x1000.length:Int)))) * 131)) + (wrap64 ((wrap64 (rd x1000 (Int.tmod (wrap64 ((wrap64 ((wrap64 (x1001 - 1)) * 7)) + 3)) (x1000.length:Int)))) * 1117)))) + (wrap64 ((wrap64 (x1001 - 1)) * 29)))) + (wrap64 ((wrap64 (Int.tdiv (wrap64 (x1001 - 1)) (x1000.length:Int))) * 53)))) (wrap64 (Int.tdiv (wrap64 ((wrap64 ((wrap64 ((wrap64 ((wrap64 (rd x1000 (Int.tmod (wrap64 (x1001 - 1)) (x1000.length:Int)))) * 131)) + (wrap64 ((wrap64 (rd x1000 (Int.tmod (wrap64 ((wrap64 ((wrap64 (x1001 - 1)) * 7)) + 3)) (x1000.length:Int)))) * 1117)))) + (wrap64 ((wrap64 (x1001 - 1)) * 29)))) + (wrap64 ((wrap64 (Int.tdiv (wrap64 (x1001 - 1)) (x1000.length:Int))) * 53)))) 64))) x1,x1001))) else (none)) else (none)) else (none)) else (none))))
def spec_l6Rd_pick.f (k:Nat) (s0_0:List Int) (s0_1:Int) (a1:Int):Option (Int × Int):=if a1 < 1 then (spec_l6Rd_pick.j0 k a1 true s0_0 (wrap64 (s0_1 + 1))) else (spec_l6Rd_pick.j0 k a1 ((s0_0.length:Int) == 0) s0_0 (wrap64 (s0_1 + 1)))
theorem spec_l6Rd_pick.mono_l:∀ k,(∀ y0 y1 y2 y3,LeO (spec_l6Rd_pick.j0 k y0 y1 y2 y3) (spec_l6Rd_pick.j0 (k + 1) y0 y1 y2 y3))
 | 0=>fun _ _ _ _ r h=>by simp [spec_l6Rd_pick.j0] at h
 | k + 1=>by
  have ih0:=spec_l6Rd_pick.mono_l k
  ·intro y0 y1 y2 y3
   unfold spec_l6Rd_pick.j0
   repeat' first
   | (with_reducible exact ih0 _ _ _ _)
   | (with_reducible exact LeO.refl _)
   | (with_reducible exact LeO.none _)
   | (with_reducible refine LeO.ite ?_ ?_)
   | (with_reducible refine LeO.bind ?_ (fun _=>?_))
   | exact ih0 _ _ _ _
   | exact LeO.none _
   | refine LeO.ite ?_ ?_
   | refine LeO.bind ?_ (fun _=>?_)
theorem spec_l6Rd_pick.mono:∀ a0 a1 a2 k,LeO (spec_l6Rd_pick.f k a0 a1 a2) (spec_l6Rd_pick.f (k + 1) a0 a1 a2):=by
 intro a0 a1 a2 k
 have ih0:=spec_l6Rd_pick.mono_l k
 unfold spec_l6Rd_pick.f
 repeat' first
   | (with_reducible exact ih0 _ _ _ _)
   | (with_reducible exact LeO.refl _)
   | (with_reducible exact LeO.none _)
   | (with_reducible refine LeO.ite ?_ ?_)
   | (with_reducible refine LeO.bind ?_ (fun _=>?_))
   | exact ih0 _ _ _ _
   | exact LeO.none _
   | refine LeO.ite ?_ ?_
   | refine LeO.bind ?_ (fun _=>?_)
set_option maxHeartbeats 8000000 in
set_option maxRecDepth 100000 in
theorem spec_l6Rd_pick.calls (k:Nat) (g:Nat) (s0_0:List Int) (s0_1:Int) (a1:Int) (r1:Int) (r2:Int) (w0 w:World) (hI:IsS86 w0 w g s0_0 s0_1) (hB:Below w0.heap.size w0 w) (h:spec_l6Rd_pick.f k s0_0 s0_1 a1 = some (r1,r2)) :
  Calls Try.prog 65 #[.pointer (some ⟨g,0,none⟩),.int .i64 a1] w fun e w'=>e = .returned (.int .i64 r1)∧IsS86 w0 w' g s0_0 r2∧Below w0.heap.size w0 w'∧KeepBut w w' g none:=by
 have HI0:=Aside0.mk hI
 have HK:=Aside0.mk (KeepBut.refl w g none)
 have HL:=Aside0.mk hB.size
 clear hI
 have HW0:=Aside0.mk hB.size
 have HB:=Aside0.mk hB
 clear hB
 have H:(if a1 < 1 then (spec_l6Rd_pick.j0 k a1 true s0_0 (wrap64 (s0_1 + 1))) else (spec_l6Rd_pick.j0 k a1 ((s0_0.length:Int) == 0) s0_0 (wrap64 (s0_1 + 1)))) = some (r1,r2):=h
 clear h
 have HC3:=Aside0.mk H
 clear H
 obtain ⟨ASz4_0,cSz4_0,HGz4,hgz4,HSz4_0⟩:=HI0.out
 have hcz4_0:=cellS86_0 HGz4
 have hcz4_1:=cellS86_1 HGz4
 have hfz4_1:=blk_frozen HGz4 1
 clear HGz4 hgz4
 go_enter Try.func65,Try.ntmps65
 go_upto_region 2 with (fail)
 repeat (go_quiet (fail);go_upto_region 2 with (fail))
 go_cut [24] (fun v24 wc=>∃ (kq:Nat) (x24_2:Bool),v24 = .bool x24_2∧Aside0 (spec_l6Rd_pick.j0 kq a1 x24_2 s0_0 (wrap64 (s0_1 + 1)) = some (r1,r2))∧Aside0 (kq ≤ k)∧Aside0 (IsS86 w0 wc g s0_0 (wrap64 (s0_1 + 1)))∧Aside0 (KeepBut w wc g none)∧Aside0 (Below w0.heap.size w0 wc))
 case first =>
  have H:=HC3.out
  clear HC3
  by_cases c5:a1 < 1
  ·rw [if_pos c5] at H
   have c5b0:decide (a1 < 1) = true:=decide_eq_true c5
   clear c5
   (first | rw [c5b0] | (simp only [i64_w,i32_w];rw [c5b0]) | skip)
   have H':=Aside0.mk H
   clear H
   go_wp2
   repeat (go_quiet (fail);try go_wp2)
   go_meet
   case rel=>exact ⟨_,(true),(by first | rfl | (simp;done) | (simp [*];done)),H',⟨by first | omega | exact Nat.le_refl _⟩,⟨by repeat (first | (with_reducible first | exact HI0.out | apply IsS86.alloc | apply IsS86.drewN | apply IsS86.drew | apply IsS86.set_1) | exact HI0.out)⟩,⟨by repeat (first | (with_reducible first | exact HK.out | apply KeepBut.set_ | apply keep_drewN | apply keep_drew | apply keep_alloc) | exact HK.out)⟩,⟨by repeat (first | (with_reducible first | exact HB.out | apply below_alloc | apply pw_below_drewN | apply below_drew1 | refine below_set ?_ (IsS86.ge HI0.out)) | exact HB.out)⟩⟩
  ·rw [if_neg c5] at H
   have c5b0:decide (a1 < 1) = false:=decide_eq_false c5
   clear c5
   (first | rw [c5b0] | (simp only [i64_w,i32_w];rw [c5b0]) | skip)
   have H':=Aside0.mk H
   clear H
   obtain ⟨ASz6_0,cSz6_0,HGz6,hgz6,HSz6_0⟩:=HI0.out
   have hcz6_0:=cellS86_0 HGz6
   have hcz6_1:=cellS86_1 HGz6
   have hfz6_1:=blk_frozen HGz6 1
   clear HGz6 hgz6
   go_wp2
   repeat (go_quiet (fail);try go_wp2)
   go_meet
   case rel=>exact ⟨_,(((s0_0.length:Int) == 0)),(by first | rfl | (simp;done) | (simp [*];done)),H',⟨by first | omega | exact Nat.le_refl _⟩,⟨by repeat (first | (with_reducible first | exact HI0.out | apply IsS86.alloc | apply IsS86.drewN | apply IsS86.drew | apply IsS86.set_1) | exact HI0.out)⟩,⟨by repeat (first | (with_reducible first | exact HK.out | apply KeepBut.set_ | apply keep_drewN | apply keep_drew | apply keep_alloc) | exact HK.out)⟩,⟨by repeat (first | (with_reducible first | exact HB.out | apply below_alloc | apply pw_below_drewN | apply below_drew1 | refine below_set ?_ (IsS86.ge HI0.out)) | exact HB.out)⟩⟩
 case rest =>
  clear HC3
  try clear p2
  try clear c5
  try clear c5b0
  try clear c6
  try clear p6
  try clear hcz4_0
  try clear hcz4_1
  try clear hcz6_0
  try clear hcz6_1
  try clear hfz4_1
  try clear hfz6_1
  obtain ⟨kq,x24_2,rfl,HA,HJ2,HI0,HK,HB⟩:=hcut
  cases kq with
  | zero=>exact absurd HA.out (by simp [spec_l6Rd_pick.j0])
  | succ kj2 =>
   have H:=HA.out
   clear HA
   simp only [spec_l6Rd_pick.j0] at H
   by_cases c7:x24_2 = true
   ·subst c7
    have H1:(some (0,(wrap64 (s0_1 + 1)))) = some (r1,r2):=by rw [if_pos rfl] at H;exact H
    clear H
    have H:=H1
    clear H1
    simp only [Option.some.injEq,Prod.mk.injEq] at H
    obtain ⟨rfl,rfl⟩:=H
    go_wp2
    repeat (go_quiet (fail);try go_wp2)
    go_ret
    exact ⟨by first | rfl | (simp [errW_none,errW_some] <;> rfl) | (simp [*,errW_none,errW_some] <;> rfl),by repeat (first | (with_reducible first | exact HI0.out | apply IsS86.alloc | apply IsS86.drewN | apply IsS86.drew | apply IsS86.set_1) | exact HI0.out),by repeat (first | (with_reducible first | exact HB.out | apply below_alloc | apply pw_below_drewN | apply below_drew1 | refine below_set ?_ (IsS86.ge HI0.out)) | exact HB.out),by repeat (first | (with_reducible first | exact HK.out | apply KeepBut.set_ | apply keep_drewN | apply keep_drew | apply keep_alloc) | exact HK.out)⟩
   ·replace c7:=Bool.eq_false_iff.mpr c7
    subst c7
    have H1:(if (wrap64 ((wrap64 (s0_1 + 1)) - 1)) < (s0_0.length:Int) then (if 0 ≤ (wrap64 ((wrap64 (s0_1 + 1)) - 1)) then (if a1 = 0 then (none) else (some (Int.tmod (wrap64 (rd s0_0 (wrap64 ((wrap64 (s0_1 + 1)) - 1)))) a1,(wrap64 (s0_1 + 1))))) else (none)) else (if (s0_0.length:Int) = 0 then (none) else (if 0 ≤ (Int.tmod (wrap64 ((wrap64 (s0_1 + 1)) - 1)) (s0_0.length:Int)) then (if (Int.tmod (wrap64 ((wrap64 (s0_1 + 1)) - 1)) (s0_0.length:Int)) < (s0_0.length:Int) then (if 0 ≤ (Int.tmod (wrap64 ((wrap64 ((wrap64 ((wrap64 (s0_1 + 1)) - 1)) * 7)) + 3)) (s0_0.length:Int)) then (if (Int.tmod (wrap64 ((wrap64 ((wrap64 ((wrap64 (s0_1 + 1)) - 1)) * 7)) + 3)) (s0_0.length:Int)) < (s0_0.length:Int) then (if a1 = 0 then (none) else (some (Int.tmod (Go.bits .xor .i64 (wrap64 ((wrap64 ((wrap64 ((wrap64 ((wrap64 (rd s0_0 (Int.tmod (wrap64 ((wrap64 (s0_1 + 1)) - 1)) (s0_0.length:Int)))) * 131)) + (wrap64 ((wrap64 (rd s0_0 (Int.tmod (wrap64 ((wrap64 ((wrap64 ((wrap64 (s0_1 + 1)) - 1)) * 7)) + 3)) (s0_0.length:Int)))) * 1117)))) + (wrap64 ((wrap64 ((wrap64 (s0_1 + 1)) - 1)) * 29)))) + (wrap64 ((wrap64 (Int.tdiv (wrap64 ((wrap64 (s0_1 + 1)) - 1)) (s0_0.length:Int))) * 53)))) (wrap64 (Int.tdiv (wrap64 ((wrap64 ((wrap64 ((wrap64 ((wrap64 (rd s0_0 (Int.tmod (wrap64 ((wrap64 (s0_1 + 1)) - 1)) (s0_0.length:Int)))) * 131)) + (wrap64 ((wrap64 (rd s0_0 (Int.tmod (wrap64 ((wrap64 ((wrap64 ((wrap64 (s0_1 + 1)) - 1)) * 7)) + 3)) (s0_0.length:Int)))) * 1117)))) + (wrap64 ((wrap64 ((wrap64 (s0_1 + 1)) - 1)) * 29)))) + (wrap64 ((wrap64 (Int.tdiv (wrap64 ((wrap64 (s0_1 + 1)) - 1)) (s0_0.length:Int))) * 53)))) 64))) a1,(wrap64 (s0_1 + 1))))) else (none)) else (none)) else (none)) else (none)))) = some (r1,r2):=by rw [if_neg (show ¬ (false = true) by decide)] at H;exact H
    clear H
    have H:=H1
    clear H1
    by_cases c8:(wrap64 ((wrap64 (s0_1 + 1)) - 1)) < (s0_0.length:Int)
    ·rw [if_pos c8] at H
     have c8b0:decide ((wrap64 ((wrap64 (s0_1 + 1)) - 1)) < (s0_0.length:Int)) = true:=decide_eq_true c8
     clear c8
     obtain ⟨ji9,hji9⟩:∃ j_:Int,(wrap64 ((wrap64 (s0_1 + 1)) - 1)) = j_:=⟨_,rfl⟩
     replace H:(if 0 ≤ (ji9) then (if a1 = 0 then (none) else (some (Int.tmod (wrap64 (rd s0_0 (ji9))) a1,(wrap64 (s0_1 + 1))))) else (none)) = some (r1,r2):=by first | (rw [hji9] at H;exact H) | (simp only [hji9] at H ⊢;exact H)
     (try rw [hji9] at c8b0)
     have hji9w:(IntKind.i64.wrap ((wrap64 (s0_1 + 1)) - 1)) = ji9:=(i64_w _).trans hji9
     by_cases c10:0 ≤ (ji9)
     ·rw [if_pos c10] at H
      have c10b0:decide (0 ≤ (ji9)) = true:=decide_eq_true c10
      clear c10
      by_cases c11:a1 = 0
      ·rw [if_pos c11] at H
       exact absurd H (by simp)
      ·rw [if_neg c11] at H
       have c11b0:(a1 == 0) = false:=beq_eq_false_iff_ne.mpr c11
       have c11b1:(a1 != 0) = true:=bne_iff_ne.mpr c11
       simp only [Option.some.injEq,Prod.mk.injEq] at H
       obtain ⟨rfl,rfl⟩:=H
       obtain ⟨ASz12_0,cSz12_0,HGz12,hgz12,HSz12_0⟩:=HI0.out
       have hcz12_0:=cellS86_0 HGz12
       have hcz12_1:=cellS86_1 HGz12
       have hfz12_1:=blk_frozen HGz12 1
       clear HGz12 hgz12
       have p104:0 ≤ ((ji9):Int):=of_decide_eq_true (by first | (with_reducible assumption) | assumption)
       have q104:(ji9) < (s0_0.length:Int):=of_decide_eq_true (by first | (with_reducible assumption) | assumption)
       obtain ⟨ad104,e104,hx104_0⟩:=Kd.at_int HSz12_0 (ji9) p104 q104
       cases e104
       replace hx104_0:=pw_cell_below HB.out hx104_0
       replace p104:=eq_true p104
       replace q104:=eq_true q104
       go_wp2
       repeat (go_quiet (fail);try go_wp2)
       go_ret
       exact ⟨by first | rfl | (simp [errW_none,errW_some] <;> rfl) | (simp only [← hji9];first | rfl | (simp [errW_none,errW_some] <;> rfl)) | (simp [*,errW_none,errW_some] <;> rfl),by repeat (first | (with_reducible first | exact HI0.out | apply IsS86.alloc | apply IsS86.drewN | apply IsS86.drew | apply IsS86.set_1) | exact HI0.out),by repeat (first | (with_reducible first | exact HB.out | apply below_alloc | apply pw_below_drewN | apply below_drew1 | refine below_set ?_ (IsS86.ge HI0.out)) | exact HB.out),by repeat (first | (with_reducible first | exact HK.out | apply KeepBut.set_ | apply keep_drewN | apply keep_drew | apply keep_alloc) | exact HK.out)⟩
     ·rw [if_neg c10] at H
      exact absurd H (by simp)
    ·rw [if_neg c8] at H
     have c8b0:decide ((wrap64 ((wrap64 (s0_1 + 1)) - 1)) < (s0_0.length:Int)) = false:=decide_eq_false c8
     clear c8
     by_cases c13:(s0_0.length:Int) = 0
     ·rw [if_pos c13] at H
      exact absurd H (by simp)
     ·rw [if_neg c13] at H
      have c13b0:((s0_0.length:Int) == 0) = false:=beq_eq_false_iff_ne.mpr c13
      have c13b1:((s0_0.length:Int) != 0) = true:=bne_iff_ne.mpr c13
      have c13b2:¬ (s0_0 = []):=fun h_=>c13 (by rw [h_];rfl)
      obtain ⟨ji14,hji14⟩:∃ j_:Int,(Int.tmod (wrap64 ((wrap64 (s0_1 + 1)) - 1)) (s0_0.length:Int)) = j_:=⟨_,rfl⟩
      replace H:(if 0 ≤ (ji14) then (if (ji14) < (s0_0.length:Int) then (if 0 ≤ (Int.tmod (wrap64 ((wrap64 ((wrap64 ((wrap64 (s0_1 + 1)) - 1)) * 7)) + 3)) (s0_0.length:Int)) then (if (Int.tmod (wrap64 ((wrap64 ((wrap64 ((wrap64 (s0_1 + 1)) - 1)) * 7)) + 3)) (s0_0.length:Int)) < (s0_0.length:Int) then (if a1 = 0 then (none) else (some (Int.tmod (Go.bits .xor .i64 (wrap64 ((wrap64 ((wrap64 ((wrap64 ((wrap64 (rd s0_0 (ji14))) * 131)) + (wrap64 ((wrap64 (rd s0_0 (Int.tmod (wrap64 ((wrap64 ((wrap64 ((wrap64 (s0_1 + 1)) - 1)) * 7)) + 3)) (s0_0.length:Int)))) * 1117)))) + (wrap64 ((wrap64 ((wrap64 (s0_1 + 1)) - 1)) * 29)))) + (wrap64 ((wrap64 (Int.tdiv (wrap64 ((wrap64 (s0_1 + 1)) - 1)) (s0_0.length:Int))) * 53)))) (wrap64 (Int.tdiv (wrap64 ((wrap64 ((wrap64 ((wrap64 ((wrap64 (rd s0_0 (ji14))) * 131)) + (wrap64 ((wrap64 (rd s0_0 (Int.tmod (wrap64 ((wrap64 ((wrap64 ((wrap64 (s0_1 + 1)) - 1)) * 7)) + 3)) (s0_0.length:Int)))) * 1117)))) + (wrap64 ((wrap64 ((wrap64 (s0_1 + 1)) - 1)) * 29)))) + (wrap64 ((wrap64 (Int.tdiv (wrap64 ((wrap64 (s0_1 + 1)) - 1)) (s0_0.length:Int))) * 53)))) 64))) a1,(wrap64 (s0_1 + 1))))) else (none)) else (none)) else (none)) else (none)) = some (r1,r2):=by first | (rw [hji14] at H;exact H) | (simp only [hji14] at H ⊢;exact H)
      by_cases c15:0 ≤ (ji14)
      ·rw [if_pos c15] at H
       have c15b0:decide (0 ≤ (ji14)) = true:=decide_eq_true c15
       clear c15
       by_cases c16:(ji14) < (s0_0.length:Int)
       ·rw [if_pos c16] at H
        have c16b0:decide ((ji14) < (s0_0.length:Int)) = true:=decide_eq_true c16
        clear c16
        obtain ⟨ji17,hji17⟩:∃ j_:Int,(Int.tmod (wrap64 ((wrap64 ((wrap64 ((wrap64 (s0_1 + 1)) - 1)) * 7)) + 3)) (s0_0.length:Int)) = j_:=⟨_,rfl⟩
        replace H:(if 0 ≤ (ji17) then (if (ji17) < (s0_0.length:Int) then (if a1 = 0 then (none) else (some (Int.tmod (Go.bits .xor .i64 (wrap64 ((wrap64 ((wrap64 ((wrap64 ((wrap64 (rd s0_0 (ji14))) * 131)) + (wrap64 ((wrap64 (rd s0_0 (ji17))) * 1117)))) + (wrap64 ((wrap64 ((wrap64 (s0_1 + 1)) - 1)) * 29)))) + (wrap64 ((wrap64 (Int.tdiv (wrap64 ((wrap64 (s0_1 + 1)) - 1)) (s0_0.length:Int))) * 53)))) (wrap64 (Int.tdiv (wrap64 ((wrap64 ((wrap64 ((wrap64 ((wrap64 (rd s0_0 (ji14))) * 131)) + (wrap64 ((wrap64 (rd s0_0 (ji17))) * 1117)))) + (wrap64 ((wrap64 ((wrap64 (s0_1 + 1)) - 1)) * 29)))) + (wrap64 ((wrap64 (Int.tdiv (wrap64 ((wrap64 (s0_1 + 1)) - 1)) (s0_0.length:Int))) * 53)))) 64))) a1,(wrap64 (s0_1 + 1))))) else (none)) else (none)) = some (r1,r2):=by first | (rw [hji17] at H;exact H) | (simp only [hji17] at H ⊢;exact H)
        by_cases c18:0 ≤ (ji17)
        ·rw [if_pos c18] at H
         have c18b0:decide (0 ≤ (ji17)) = true:=decide_eq_true c18
         clear c18
         by_cases c19:(ji17) < (s0_0.length:Int)
         ·rw [if_pos c19] at H
          have c19b0:decide ((ji17) < (s0_0.length:Int)) = true:=decide_eq_true c19
          clear c19
          by_cases c20:a1 = 0
          ·rw [if_pos c20] at H
           exact absurd H (by simp)
          ·rw [if_neg c20] at H
           have c20b0:(a1 == 0) = false:=beq_eq_false_iff_ne.mpr c20
           have c20b1:(a1 != 0) = true:=bne_iff_ne.mpr c20
           simp only [Option.some.injEq,Prod.mk.injEq] at H
           obtain ⟨rfl,rfl⟩:=H
           obtain ⟨ASz21_0,cSz21_0,HGz21,hgz21,HSz21_0⟩:=HI0.out
           have hcz21_0:=cellS86_0 HGz21
           have hcz21_1:=cellS86_1 HGz21
           have hfz21_1:=blk_frozen HGz21 1
           clear HGz21 hgz21
           have p105:0 ≤ ((ji14):Int):=of_decide_eq_true (by first | (with_reducible assumption) | assumption)
           have q105:(ji14) < (s0_0.length:Int):=of_decide_eq_true (by first | (with_reducible assumption) | assumption)
           obtain ⟨ad105,e105,hx105_0⟩:=Kd.at_int HSz21_0 (ji14) p105 q105
           cases e105
           replace hx105_0:=pw_cell_below HB.out hx105_0
           replace p105:=eq_true p105
           replace q105:=eq_true q105
           have p106:0 ≤ ((ji17):Int):=of_decide_eq_true (by first | (with_reducible assumption) | assumption)
           have q106:(ji17) < (s0_0.length:Int):=of_decide_eq_true (by first | (with_reducible assumption) | assumption)
           obtain ⟨ad106,e106,hx106_0⟩:=Kd.at_int HSz21_0 (ji17) p106 q106
           obtain rfl:ad105 = ad106:=(by injection e106)
           replace hx106_0:=pw_cell_below HB.out hx106_0
           replace p106:=eq_true p106
           replace q106:=eq_true q106
           go_wp2
           repeat (go_quiet (fail);try go_wp2)
           go_ret
           exact ⟨by first | rfl | (simp [errW_none,errW_some] <;> rfl) | (simp only [← hji14,← hji17];first | rfl | (simp [errW_none,errW_some] <;> rfl)) | (simp [*,errW_none,errW_some] <;> rfl),by repeat (first | (with_reducible first | exact HI0.out | apply IsS86.alloc | apply IsS86.drewN | apply IsS86.drew | apply IsS86.set_1) | exact HI0.out),by repeat (first | (with_reducible first | exact HB.out | apply below_alloc | apply pw_below_drewN | apply below_drew1 | refine below_set ?_ (IsS86.ge HI0.out)) | exact HB.out),by repeat (first | (with_reducible first | exact HK.out | apply KeepBut.set_ | apply keep_drewN | apply keep_drew | apply keep_alloc) | exact HK.out)⟩
         ·rw [if_neg c19] at H
          exact absurd H (by simp)
        ·rw [if_neg c18] at H
         exact absurd H (by simp)
       ·rw [if_neg c16] at H
        exact absurd H (by simp)
      ·rw [if_neg c15] at H
       exact absurd H (by simp)
def spec_l19Shares.f (a0_0:Int) (a0_1:Int) (a1_0:Int) (a1_1:Int):Option (Bool):=if a0_0 = a1_0 then (some true) else (if a0_0 = a1_1 then (some true) else (if a0_1 ≥ 0 then (if a0_1 = a1_0 then (some true) else (some (a0_1 == a1_1))) else (some false)))
set_option maxHeartbeats 8000000 in
set_option maxRecDepth 100000 in
theorem spec_l19Shares.calls (a0_0:Int) (a0_1:Int) (a1_0:Int) (a1_1:Int) (r:Bool) (w:World) (h:spec_l19Shares.f a0_0 a0_1 a1_0 a1_1 = some r) :
  Calls Try.prog 94 #[.agg #[.int .i64 a0_0,.int .i64 a0_1],.agg #[.int .i64 a1_0,.int .i64 a1_1]] w fun e w'=>e = .returned (.bool r)∧Below w.heap.size w w':=by
 have hu32:=Try.underlying32
 have HB:=Aside0.mk (Below.refl w.heap.size w)
 have H:(if a0_0 = a1_0 then (some true) else (if a0_0 = a1_1 then (some true) else (if a0_1 ≥ 0 then (if a0_1 = a1_0 then (some true) else (some (a0_1 == a1_1))) else (some false)))) = some r:=h
 clear h
 by_cases c3:a0_0 = a1_0
 ·rw [if_pos c3] at H
  have c3b0:(a0_0 == a1_0) = true:=beq_iff_eq.mpr c3
  have c3b1:(a0_0 != a1_0) = false:=bne_eq_false_iff_eq.mpr c3
  clear c3
  obtain rfl:=Option.some.inj H
  go_enter Try.func94,Try.ntmps94
  go_wp2_with (first | ((with_reducible refine gate_dst (N:=2) rfl ?_);refine box_event ?hg (N:=2) ?hd (cs:=#[.int .i64 a0_0,.int .i64 a0_1]) (t:=32) ?hr ?_;(case hd=>rfl);(case hg=>rfl);(case hr=>first | (go_simp;done) | (go_simp;rfl));intro gb464 hg w4 hbox hb;have n0_:=Aside0.mk (below_step (by repeat (first | (with_reducible first | exact HB.out | apply below_alloc | apply pw_below_drewN | apply below_drew1) | exact HB.out)) hb);have n1_:=Aside0.mk (hbox);have n2_:=Aside0.mk ((by rw [hg];exact (below_size (by repeat (first | (with_reducible first | exact HB.out | apply below_alloc | apply pw_below_drewN | apply below_drew1) | exact HB.out))):w.heap.size ≤ gb464));have n3_:=Aside0.mk ((by rw [hg];exact (below_size (by repeat (first | (with_reducible first | exact HB.out | apply below_alloc | apply pw_below_drewN | apply below_drew1) | exact HB.out))):w.heap.size ≤ gb464));clear HB;have HB:=n0_;have BK464:=n1_;have GW464:=n2_;have GE464:=n3_;clear n0_ n1_ n2_ n3_;clear hb hbox hg) | ((with_reducible refine gate_dst (N:=3) rfl ?_);refine box_event ?hg (N:=3) ?hd (cs:=#[.int .i64 a1_0,.int .i64 a1_1]) (t:=32) ?hr ?_;(case hd=>rfl);(case hg=>rfl);(case hr=>first | (go_simp;done) | (go_simp;rfl));intro gb465 hg w5 hbox hb;have n0_:=Aside0.mk (blk_below (g:=gb464) (o:=.cells #[.int .i64 a0_0,.int .i64 a0_1] 32 (0,0)) (by (with_reducible repeat (first | refine blk_drewN ?_ _ | refine blk_drew ?_ | refine blk_alloc ?_ _));exact BK464.out) hb);have n1_:=Aside0.mk (below_step (by repeat (first | (with_reducible first | exact HB.out | apply below_alloc | apply pw_below_drewN | apply below_drew1 | refine below_set ?_ GE464.out) | exact HB.out)) hb);have n2_:=Aside0.mk (hbox);have n3_:=Aside0.mk ((by rw [hg];exact (below_size (by repeat (first | (with_reducible first | exact HB.out | apply below_alloc | apply pw_below_drewN | apply below_drew1 | refine below_set ?_ GE464.out) | exact HB.out))):w.heap.size ≤ gb465));have n4_:=Aside0.mk ((by rw [hg];exact (below_size (by repeat (first | (with_reducible first | exact HB.out | apply below_alloc | apply pw_below_drewN | apply below_drew1 | refine below_set ?_ GE464.out) | exact HB.out))):w.heap.size ≤ gb465));have n5_:=Aside0.mk ((by rw [hg];exact Nat.ne_of_lt (blk_lt (g:=gb464) (o:=.cells #[.int .i64 a0_0,.int .i64 a0_1] 32 (0,0)) (by (with_reducible repeat (first | refine blk_drewN ?_ _ | refine blk_drew ?_ | refine blk_alloc ?_ _));exact BK464.out)):gb464 ≠ gb465));have n6_:=Aside0.mk ((by rw [hg];exact Nat.ne_of_gt (blk_lt (g:=gb464) (o:=.cells #[.int .i64 a0_0,.int .i64 a0_1] 32 (0,0)) (by (with_reducible repeat (first | refine blk_drewN ?_ _ | refine blk_drew ?_ | refine blk_alloc ?_ _));exact BK464.out)):gb465 ≠ gb464));clear BK464;clear HB;have BK464:=n0_;have HB:=n1_;have BK465:=n2_;have GW465:=n3_;have GE465:=n4_;have NB464_465:=n5_;have NB465_464:=n6_;clear n0_ n1_ n2_ n3_ n4_ n5_ n6_;clear hb hbox hg;have hnb6:=NB464_465.out;have hnc6:=NB465_464.out;have hcz7_0:w5.cell? ⟨gb464,0,none⟩ = some (.int .i64 a0_0):=(blk_cell BK464.out 0).trans rfl;have hcz7_1:w5.cell? ⟨gb464,1,none⟩ = some (.int .i64 a0_1):=(blk_cell BK464.out 1).trans rfl;have hfz7_0:=blk_frozen BK464.out 0;have hfz7_1:=blk_frozen BK464.out 1;have hcz8_0:w5.cell? ⟨gb465,0,none⟩ = some (.int .i64 a1_0):=(blk_cell BK465.out 0).trans rfl;have hcz8_1:w5.cell? ⟨gb465,1,none⟩ = some (.int .i64 a1_1):=(blk_cell BK465.out 1).trans rfl;have hfz8_0:=blk_frozen BK465.out 0;have hfz8_1:=blk_frozen BK465.out 1))
  go_ret
  exact ⟨by first | rfl | (simp [errW_none,errW_some] <;> rfl) | (simp [*,errW_none,errW_some] <;> rfl),by repeat (first | (with_reducible first | exact HB.out | apply below_alloc | apply pw_below_drewN | apply below_drew1 | refine below_set ?_ GE464.out | refine below_set ?_ GE465.out) | exact HB.out)⟩
 ·rw [if_neg c3] at H
  have c3b0:(a0_0 == a1_0) = false:=beq_eq_false_iff_ne.mpr c3
  have c3b1:(a0_0 != a1_0) = true:=bne_iff_ne.mpr c3
  by_cases c9:a0_0 = a1_1
  ·rw [if_pos c9] at H
   have c9b0:(a0_0 == a1_1) = true:=beq_iff_eq.mpr c9
   have c9b1:(a0_0 != a1_1) = false:=bne_eq_false_iff_eq.mpr c9
   clear c9
   obtain rfl:=Option.some.inj H
   go_enter Try.func94,Try.ntmps94
   go_wp2_with (first | ((with_reducible refine gate_dst (N:=2) rfl ?_);refine box_event ?hg (N:=2) ?hd (cs:=#[.int .i64 a0_0,.int .i64 a0_1]) (t:=32) ?hr ?_;(case hd=>rfl);(case hg=>rfl);(case hr=>first | (go_simp;done) | (go_simp;rfl));intro gb464 hg w10 hbox hb;have n0_:=Aside0.mk (below_step (by repeat (first | (with_reducible first | exact HB.out | apply below_alloc | apply pw_below_drewN | apply below_drew1) | exact HB.out)) hb);have n1_:=Aside0.mk (hbox);have n2_:=Aside0.mk ((by rw [hg];exact (below_size (by repeat (first | (with_reducible first | exact HB.out | apply below_alloc | apply pw_below_drewN | apply below_drew1) | exact HB.out))):w.heap.size ≤ gb464));have n3_:=Aside0.mk ((by rw [hg];exact (below_size (by repeat (first | (with_reducible first | exact HB.out | apply below_alloc | apply pw_below_drewN | apply below_drew1) | exact HB.out))):w.heap.size ≤ gb464));clear HB;have HB:=n0_;have BK464:=n1_;have GW464:=n2_;have GE464:=n3_;clear n0_ n1_ n2_ n3_;clear hb hbox hg) | ((with_reducible refine gate_dst (N:=3) rfl ?_);refine box_event ?hg (N:=3) ?hd (cs:=#[.int .i64 a1_0,.int .i64 a1_1]) (t:=32) ?hr ?_;(case hd=>rfl);(case hg=>rfl);(case hr=>first | (go_simp;done) | (go_simp;rfl));intro gb465 hg w11 hbox hb;have n0_:=Aside0.mk (blk_below (g:=gb464) (o:=.cells #[.int .i64 a0_0,.int .i64 a0_1] 32 (0,0)) (by (with_reducible repeat (first | refine blk_drewN ?_ _ | refine blk_drew ?_ | refine blk_alloc ?_ _));exact BK464.out) hb);have n1_:=Aside0.mk (below_step (by repeat (first | (with_reducible first | exact HB.out | apply below_alloc | apply pw_below_drewN | apply below_drew1 | refine below_set ?_ GE464.out) | exact HB.out)) hb);have n2_:=Aside0.mk (hbox);have n3_:=Aside0.mk ((by rw [hg];exact (below_size (by repeat (first | (with_reducible first | exact HB.out | apply below_alloc | apply pw_below_drewN | apply below_drew1 | refine below_set ?_ GE464.out) | exact HB.out))):w.heap.size ≤ gb465));have n4_:=Aside0.mk ((by rw [hg];exact (below_size (by repeat (first | (with_reducible first | exact HB.out | apply below_alloc | apply pw_below_drewN | apply below_drew1 | refine below_set ?_ GE464.out) | exact HB.out))):w.heap.size ≤ gb465));have n5_:=Aside0.mk ((by rw [hg];exact Nat.ne_of_lt (blk_lt (g:=gb464) (o:=.cells #[.int .i64 a0_0,.int .i64 a0_1] 32 (0,0)) (by (with_reducible repeat (first | refine blk_drewN ?_ _ | refine blk_drew ?_ | refine blk_alloc ?_ _));exact BK464.out)):gb464 ≠ gb465));have n6_:=Aside0.mk ((by rw [hg];exact Nat.ne_of_gt (blk_lt (g:=gb464) (o:=.cells #[.int .i64 a0_0,.int .i64 a0_1] 32 (0,0)) (by (with_reducible repeat (first | refine blk_drewN ?_ _ | refine blk_drew ?_ | refine blk_alloc ?_ _));exact BK464.out)):gb465 ≠ gb464));clear BK464;clear HB;have BK464:=n0_;have HB:=n1_;have BK465:=n2_;have GW465:=n3_;have GE465:=n4_;have NB464_465:=n5_;have NB465_464:=n6_;clear n0_ n1_ n2_ n3_ n4_ n5_ n6_;clear hb hbox hg;have hnb12:=NB464_465.out;have hnc12:=NB465_464.out;have hcz13_0:w11.cell? ⟨gb464,0,none⟩ = some (.int .i64 a0_0):=(blk_cell BK464.out 0).trans rfl;have hcz13_1:w11.cell? ⟨gb464,1,none⟩ = some (.int .i64 a0_1):=(blk_cell BK464.out 1).trans rfl;have hfz13_0:=blk_frozen BK464.out 0;have hfz13_1:=blk_frozen BK464.out 1;have hcz14_0:w11.cell? ⟨gb465,0,none⟩ = some (.int .i64 a1_0):=(blk_cell BK465.out 0).trans rfl;have hcz14_1:w11.cell? ⟨gb465,1,none⟩ = some (.int .i64 a1_1):=(blk_cell BK465.out 1).trans rfl;have hfz14_0:=blk_frozen BK465.out 0;have hfz14_1:=blk_frozen BK465.out 1))
   go_ret
   exact ⟨by first | rfl | (simp [errW_none,errW_some] <;> rfl) | (simp [*,errW_none,errW_some] <;> rfl),by repeat (first | (with_reducible first | exact HB.out | apply below_alloc | apply pw_below_drewN | apply below_drew1 | refine below_set ?_ GE464.out | refine below_set ?_ GE465.out) | exact HB.out)⟩
  ·rw [if_neg c9] at H
   have c9b0:(a0_0 == a1_1) = false:=beq_eq_false_iff_ne.mpr c9
   have c9b1:(a0_0 != a1_1) = true:=bne_iff_ne.mpr c9
   by_cases c15:a0_1 ≥ 0
   ·rw [if_pos c15] at H
    have c15b0:decide (0 ≤ a0_1) = true:=decide_eq_true c15
    clear c15
    by_cases c16:a0_1 = a1_0
    ·rw [if_pos c16] at H
     have c16b0:(a0_1 == a1_0) = true:=beq_iff_eq.mpr c16
     have c16b1:(a0_1 != a1_0) = false:=bne_eq_false_iff_eq.mpr c16
     clear c16
     obtain rfl:=Option.some.inj H
     go_enter Try.func94,Try.ntmps94
     go_wp2_with (first | ((with_reducible refine gate_dst (N:=2) rfl ?_);refine box_event ?hg (N:=2) ?hd (cs:=#[.int .i64 a0_0,.int .i64 a0_1]) (t:=32) ?hr ?_;(case hd=>rfl);(case hg=>rfl);(case hr=>first | (go_simp;done) | (go_simp;rfl));intro gb464 hg w17 hbox hb;have n0_:=Aside0.mk (below_step (by repeat (first | (with_reducible first | exact HB.out | apply below_alloc | apply pw_below_drewN | apply below_drew1) | exact HB.out)) hb);have n1_:=Aside0.mk (hbox);have n2_:=Aside0.mk ((by rw [hg];exact (below_size (by repeat (first | (with_reducible first | exact HB.out | apply below_alloc | apply pw_below_drewN | apply below_drew1) | exact HB.out))):w.heap.size ≤ gb464));have n3_:=Aside0.mk ((by rw [hg];exact (below_size (by repeat (first | (with_reducible first | exact HB.out | apply below_alloc | apply pw_below_drewN | apply below_drew1) | exact HB.out))):w.heap.size ≤ gb464));clear HB;have HB:=n0_;have BK464:=n1_;have GW464:=n2_;have GE464:=n3_;clear n0_ n1_ n2_ n3_;clear hb hbox hg) | ((with_reducible refine gate_dst (N:=3) rfl ?_);refine box_event ?hg (N:=3) ?hd (cs:=#[.int .i64 a1_0,.int .i64 a1_1]) (t:=32) ?hr ?_;(case hd=>rfl);(case hg=>rfl);(case hr=>first | (go_simp;done) | (go_simp;rfl));intro gb465 hg w18 hbox hb;have n0_:=Aside0.mk (blk_below (g:=gb464) (o:=.cells #[.int .i64 a0_0,.int .i64 a0_1] 32 (0,0)) (by (with_reducible repeat (first | refine blk_drewN ?_ _ | refine blk_drew ?_ | refine blk_alloc ?_ _));exact BK464.out) hb);have n1_:=Aside0.mk (below_step (by repeat (first | (with_reducible first | exact HB.out | apply below_alloc | apply pw_below_drewN | apply below_drew1 | refine below_set ?_ GE464.out) | exact HB.out)) hb);have n2_:=Aside0.mk (hbox);have n3_:=Aside0.mk ((by rw [hg];exact (below_size (by repeat (first | (with_reducible first | exact HB.out | apply below_alloc | apply pw_below_drewN | apply below_drew1 | refine below_set ?_ GE464.out) | exact HB.out))):w.heap.size ≤ gb465));have n4_:=Aside0.mk ((by rw [hg];exact (below_size (by repeat (first | (with_reducible first | exact HB.out | apply below_alloc | apply pw_below_drewN | apply below_drew1 | refine below_set ?_ GE464.out) | exact HB.out))):w.heap.size ≤ gb465));have n5_:=Aside0.mk ((by rw [hg];exact Nat.ne_of_lt (blk_lt (g:=gb464) (o:=.cells #[.int .i64 a0_0,.int .i64 a0_1] 32 (0,0)) (by (with_reducible repeat (first | refine blk_drewN ?_ _ | refine blk_drew ?_ | refine blk_alloc ?_ _));exact BK464.out)):gb464 ≠ gb465));have n6_:=Aside0.mk ((by rw [hg];exact Nat.ne_of_gt (blk_lt (g:=gb464) (o:=.cells #[.int .i64 a0_0,.int .i64 a0_1] 32 (0,0)) (by (with_reducible repeat (first | refine blk_drewN ?_ _ | refine blk_drew ?_ | refine blk_alloc ?_ _));exact BK464.out)):gb465 ≠ gb464));clear BK464;clear HB;have BK464:=n0_;have HB:=n1_;have BK465:=n2_;have GW465:=n3_;have GE465:=n4_;have NB464_465:=n5_;have NB465_464:=n6_;clear n0_ n1_ n2_ n3_ n4_ n5_ n6_;clear hb hbox hg;have hnb19:=NB464_465.out;have hnc19:=NB465_464.out;have hcz20_0:w18.cell? ⟨gb464,0,none⟩ = some (.int .i64 a0_0):=(blk_cell BK464.out 0).trans rfl;have hcz20_1:w18.cell? ⟨gb464,1,none⟩ = some (.int .i64 a0_1):=(blk_cell BK464.out 1).trans rfl;have hfz20_0:=blk_frozen BK464.out 0;have hfz20_1:=blk_frozen BK464.out 1;have hcz21_0:w18.cell? ⟨gb465,0,none⟩ = some (.int .i64 a1_0):=(blk_cell BK465.out 0).trans rfl;have hcz21_1:w18.cell? ⟨gb465,1,none⟩ = some (.int .i64 a1_1):=(blk_cell BK465.out 1).trans rfl;have hfz21_0:=blk_frozen BK465.out 0;have hfz21_1:=blk_frozen BK465.out 1))
     go_ret
     exact ⟨by first | rfl | (simp [errW_none,errW_some] <;> rfl) | (simp [*,errW_none,errW_some] <;> rfl),by repeat (first | (with_reducible first | exact HB.out | apply below_alloc | apply pw_below_drewN | apply below_drew1 | refine below_set ?_ GE464.out | refine below_set ?_ GE465.out) | exact HB.out)⟩
    ·rw [if_neg c16] at H
     have c16b0:(a0_1 == a1_0) = false:=beq_eq_false_iff_ne.mpr c16
     have c16b1:(a0_1 != a1_0) = true:=bne_iff_ne.mpr c16
     obtain rfl:=Option.some.inj H
     go_enter Try.func94,Try.ntmps94
     go_wp2_with (first | ((with_reducible refine gate_dst (N:=2) rfl ?_);refine box_event ?hg (N:=2) ?hd (cs:=#[.int .i64 a0_0,.int .i64 a0_1]) (t:=32) ?hr ?_;(case hd=>rfl);(case hg=>rfl);(case hr=>first | (go_simp;done) | (go_simp;rfl));intro gb464 hg w22 hbox hb;have n0_:=Aside0.mk (below_step (by repeat (first | (with_reducible first | exact HB.out | apply below_alloc | apply pw_below_drewN | apply below_drew1) | exact HB.out)) hb);have n1_:=Aside0.mk (hbox);have n2_:=Aside0.mk ((by rw [hg];exact (below_size (by repeat (first | (with_reducible first | exact HB.out | apply below_alloc | apply pw_below_drewN | apply below_drew1) | exact HB.out))):w.heap.size ≤ gb464));have n3_:=Aside0.mk ((by rw [hg];exact (below_size (by repeat (first | (with_reducible first | exact HB.out | apply below_alloc | apply pw_below_drewN | apply below_drew1) | exact HB.out))):w.heap.size ≤ gb464));clear HB;have HB:=n0_;have BK464:=n1_;have GW464:=n2_;have GE464:=n3_;clear n0_ n1_ n2_ n3_;clear hb hbox hg) | ((with_reducible refine gate_dst (N:=3) rfl ?_);refine box_event ?hg (N:=3) ?hd (cs:=#[.int .i64 a1_0,.int .i64 a1_1]) (t:=32) ?hr ?_;(case hd=>rfl);(case hg=>rfl);(case hr=>first | (go_simp;done) | (go_simp;rfl));intro gb465 hg w23 hbox hb;have n0_:=Aside0.mk (blk_below (g:=gb464) (o:=.cells #[.int .i64 a0_0,.int .i64 a0_1] 32 (0,0)) (by (with_reducible repeat (first | refine blk_drewN ?_ _ | refine blk_drew ?_ | refine blk_alloc ?_ _));exact BK464.out) hb);have n1_:=Aside0.mk (below_step (by repeat (first | (with_reducible first | exact HB.out | apply below_alloc | apply pw_below_drewN | apply below_drew1 | refine below_set ?_ GE464.out) | exact HB.out)) hb);have n2_:=Aside0.mk (hbox);have n3_:=Aside0.mk ((by rw [hg];exact (below_size (by repeat (first | (with_reducible first | exact HB.out | apply below_alloc | apply pw_below_drewN | apply below_drew1 | refine below_set ?_ GE464.out) | exact HB.out))):w.heap.size ≤ gb465));have n4_:=Aside0.mk ((by rw [hg];exact (below_size (by repeat (first | (with_reducible first | exact HB.out | apply below_alloc | apply pw_below_drewN | apply below_drew1 | refine below_set ?_ GE464.out) | exact HB.out))):w.heap.size ≤ gb465));have n5_:=Aside0.mk ((by rw [hg];exact Nat.ne_of_lt (blk_lt (g:=gb464) (o:=.cells #[.int .i64 a0_0,.int .i64 a0_1] 32 (0,0)) (by (with_reducible repeat (first | refine blk_drewN ?_ _ | refine blk_drew ?_ | refine blk_alloc ?_ _));exact BK464.out)):gb464 ≠ gb465));have n6_:=Aside0.mk ((by rw [hg];exact Nat.ne_of_gt (blk_lt (g:=gb464) (o:=.cells #[.int .i64 a0_0,.int .i64 a0_1] 32 (0,0)) (by (with_reducible repeat (first | refine blk_drewN ?_ _ | refine blk_drew ?_ | refine blk_alloc ?_ _));exact BK464.out)):gb465 ≠ gb464));clear BK464;clear HB;have BK464:=n0_;have HB:=n1_;have BK465:=n2_;have GW465:=n3_;have GE465:=n4_;have NB464_465:=n5_;have NB465_464:=n6_;clear n0_ n1_ n2_ n3_ n4_ n5_ n6_;clear hb hbox hg;have hnb24:=NB464_465.out;have hnc24:=NB465_464.out;have hcz25_0:w23.cell? ⟨gb464,0,none⟩ = some (.int .i64 a0_0):=(blk_cell BK464.out 0).trans rfl;have hcz25_1:w23.cell? ⟨gb464,1,none⟩ = some (.int .i64 a0_1):=(blk_cell BK464.out 1).trans rfl;have hfz25_0:=blk_frozen BK464.out 0;have hfz25_1:=blk_frozen BK464.out 1;have hcz26_0:w23.cell? ⟨gb465,0,none⟩ = some (.int .i64 a1_0):=(blk_cell BK465.out 0).trans rfl;have hcz26_1:w23.cell? ⟨gb465,1,none⟩ = some (.int .i64 a1_1):=(blk_cell BK465.out 1).trans rfl;have hfz26_0:=blk_frozen BK465.out 0;have hfz26_1:=blk_frozen BK465.out 1))
     go_ret
     exact ⟨by first | rfl | (simp [errW_none,errW_some] <;> rfl) | (simp [*,errW_none,errW_some] <;> rfl),by repeat (first | (with_reducible first | exact HB.out | apply below_alloc | apply pw_below_drewN | apply below_drew1 | refine below_set ?_ GE464.out | refine below_set ?_ GE465.out) | exact HB.out)⟩
   ·rw [if_neg c15] at H
    have c15b0:decide (0 ≤ a0_1) = false:=decide_eq_false c15
    clear c15
    obtain rfl:=Option.some.inj H
    go_enter Try.func94,Try.ntmps94
    go_wp2_with (first | ((with_reducible refine gate_dst (N:=2) rfl ?_);refine box_event ?hg (N:=2) ?hd (cs:=#[.int .i64 a0_0,.int .i64 a0_1]) (t:=32) ?hr ?_;(case hd=>rfl);(case hg=>rfl);(case hr=>first | (go_simp;done) | (go_simp;rfl));intro gb464 hg w27 hbox hb;have n0_:=Aside0.mk (below_step (by repeat (first | (with_reducible first | exact HB.out | apply below_alloc | apply pw_below_drewN | apply below_drew1) | exact HB.out)) hb);have n1_:=Aside0.mk (hbox);have n2_:=Aside0.mk ((by rw [hg];exact (below_size (by repeat (first | (with_reducible first | exact HB.out | apply below_alloc | apply pw_below_drewN | apply below_drew1) | exact HB.out))):w.heap.size ≤ gb464));have n3_:=Aside0.mk ((by rw [hg];exact (below_size (by repeat (first | (with_reducible first | exact HB.out | apply below_alloc | apply pw_below_drewN | apply below_drew1) | exact HB.out))):w.heap.size ≤ gb464));clear HB;have HB:=n0_;have BK464:=n1_;have GW464:=n2_;have GE464:=n3_;clear n0_ n1_ n2_ n3_;clear hb hbox hg) | ((with_reducible refine gate_dst (N:=3) rfl ?_);refine box_event ?hg (N:=3) ?hd (cs:=#[.int .i64 a1_0,.int .i64 a1_1]) (t:=32) ?hr ?_;(case hd=>rfl);(case hg=>rfl);(case hr=>first | (go_simp;done) | (go_simp;rfl));intro gb465 hg w28 hbox hb;have n0_:=Aside0.mk (blk_below (g:=gb464) (o:=.cells #[.int .i64 a0_0,.int .i64 a0_1] 32 (0,0)) (by (with_reducible repeat (first | refine blk_drewN ?_ _ | refine blk_drew ?_ | refine blk_alloc ?_ _));exact BK464.out) hb);have n1_:=Aside0.mk (below_step (by repeat (first | (with_reducible first | exact HB.out | apply below_alloc | apply pw_below_drewN | apply below_drew1 | refine below_set ?_ GE464.out) | exact HB.out)) hb);have n2_:=Aside0.mk (hbox);have n3_:=Aside0.mk ((by rw [hg];exact (below_size (by repeat (first | (with_reducible first | exact HB.out | apply below_alloc | apply pw_below_drewN | apply below_drew1 | refine below_set ?_ GE464.out) | exact HB.out))):w.heap.size ≤ gb465));have n4_:=Aside0.mk ((by rw [hg];exact (below_size (by repeat (first | (with_reducible first | exact HB.out | apply below_alloc | apply pw_below_drewN | apply below_drew1 | refine below_set ?_ GE464.out) | exact HB.out))):w.heap.size ≤ gb465));have n5_:=Aside0.mk ((by rw [hg];exact Nat.ne_of_lt (blk_lt (g:=gb464) (o:=.cells #[.int .i64 a0_0,.int .i64 a0_1] 32 (0,0)) (by (with_reducible repeat (first | refine blk_drewN ?_ _ | refine blk_drew ?_ | refine blk_alloc ?_ _));exact BK464.out)):gb464 ≠ gb465));have n6_:=Aside0.mk ((by rw [hg];exact Nat.ne_of_gt (blk_lt (g:=gb464) (o:=.cells #[.int .i64 a0_0,.int .i64 a0_1] 32 (0,0)) (by (with_reducible repeat (first | refine blk_drewN ?_ _ | refine blk_drew ?_ | refine blk_alloc ?_ _));exact BK464.out)):gb465 ≠ gb464));clear BK464;clear HB;have BK464:=n0_;have HB:=n1_;have BK465:=n2_;have GW465:=n3_;have GE465:=n4_;have NB464_465:=n5_;have NB465_464:=n6_;clear n0_ n1_ n2_ n3_ n4_ n5_ n6_;clear hb hbox hg;have hnb29:=NB464_465.out;have hnc29:=NB465_464.out;have hcz30_0:w28.cell? ⟨gb464,0,none⟩ = some (.int .i64 a0_0):=(blk_cell BK464.out 0).trans rfl;have hcz30_1:w28.cell? ⟨gb464,1,none⟩ = some (.int .i64 a0_1):=(blk_cell BK464.out 1).trans rfl;have hfz30_0:=blk_frozen BK464.out 0;have hfz30_1:=blk_frozen BK464.out 1;have hcz31_0:w28.cell? ⟨gb465,0,none⟩ = some (.int .i64 a1_0):=(blk_cell BK465.out 0).trans rfl;have hcz31_1:w28.cell? ⟨gb465,1,none⟩ = some (.int .i64 a1_1):=(blk_cell BK465.out 1).trans rfl;have hfz31_0:=blk_frozen BK465.out 0;have hfz31_1:=blk_frozen BK465.out 1))
    go_ret
    exact ⟨by first | rfl | (simp [errW_none,errW_some] <;> rfl) | (simp [*,errW_none,errW_some] <;> rfl),by repeat (first | (with_reducible first | exact HB.out | apply below_alloc | apply pw_below_drewN | apply below_drew1 | refine below_set ?_ GE464.out | refine below_set ?_ GE465.out) | exact HB.out)⟩
end Go.Proofs.Ythljlnkanllpnaa.P
