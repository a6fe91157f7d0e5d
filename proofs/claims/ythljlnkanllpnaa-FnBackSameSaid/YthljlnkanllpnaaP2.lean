/- What the Go functions that the laws reach compute, and that their calls come to just that: told by a program of this session (aprint.py). No condition. -/
import Derived.Test.YthljlnkanllpnaaP0
import Derived.Test.YthljlnkanllpnaaP1
namespace Go.Proofs.Ythljlnkanllpnaa.P
open Go.RowKit Go.Proofs.YthljlnkanllpnaaW.PrintWords Go.Proofs.YthljlnkanllpnaaW.PrintLast Go.Proofs.YthljlnkanllpnaaW.PrintMore
attribute [local go_sem] max2_int min2_int max_two min_two max_three min_three max_four min_four
set_option linter.unusedVariables false
set_option linter.unusedSimpArgs false
attribute [local go_sem high] eqA32
mutual
def spec_l92Threads.l0:Nat → List (List Int) → Int → List Int → Int → Option ((List (List Int)) × Int)
 | 0,_,_,_,_=>none
 | k + 1,x3,x4,x1000,x1001=>if x4 > 0 then ((spec_l6Rd_pick.f k x1000 x1001 6).bind fun bt115=>(spec_l92Threads.l1 k x3 x4 (([]:List Int)) bt115.1 x1000 bt115.2)) else ((spec_l6Rd_pick.f k x1000 x1001 30).bind fun bt125=>(if bt125.1 = 0 then (if 0 < (x3.length:Int) then (if (rd_L2 x3 0).length < 17592186044416 then (some ((x3.set (0:Int).toNat ((rd_L2 x3 0) ++ [9])),bt125.2)) else (none)) else (none)) else (if bt125.1 = 1 then (spec_l92Threads.l2 k x3 x1000 bt125.2) else (some (x3,bt125.2)))))
def spec_l92Threads.l1:Nat → List (List Int) → Int → List Int → Int → List Int → Int → Option ((List (List Int)) × Int)
 | 0,_,_,_,_,_,_=>none
 | k + 1,x3,x4,x5,x6,x1000,x1001=>if x6 > 0 then ((spec_l6Rd_pick.f k x1000 x1001 3).bind fun bt117=>(if x5.length < 17592186044416 then (spec_l92Threads.l1 k x3 x4 (x5 ++ [wrap64 (bt117.1 - 1)]) (wrap64 (x6 - 1)) x1000 bt117.2) else (none))) else (if x3.length < 5864062014805 then (spec_l92Threads.l0 k (x3 ++ [x5]) (wrap64 (x4 - 1)) x1000 x1001) else (none))
def spec_l92Threads.l2:Nat → List (List Int) → List Int → Int → Option ((List (List Int)) × Int)
 | 0,_,_,_=>none
 | k + 1,x3,x1000,x1001=>if (x3.length:Int) ≤ 4 then (if x3.length < 5864062014805 then (spec_l92Threads.l2 k (x3 ++ [(([]:List Int))]) x1000 x1001) else (none)) else (some (x3,x1001))
end
def spec_l92Threads.f (k:Nat) (s0_0:List Int) (s0_1:Int):Option ((List (List Int)) × Int):=(spec_l6Rd_pick.f k s0_0 s0_1 4).bind fun bt110=>(spec_l92Threads.l0 k (([]:List (List Int))) (wrap64 (1 + bt110.1)) s0_0 bt110.2)
theorem spec_l92Threads.mono_l:∀ k,(∀ y0 y1 y2 y3,LeO (spec_l92Threads.l0 k y0 y1 y2 y3) (spec_l92Threads.l0 (k + 1) y0 y1 y2 y3))∧(∀ y0 y1 y2 y3 y4 y5,LeO (spec_l92Threads.l1 k y0 y1 y2 y3 y4 y5) (spec_l92Threads.l1 (k + 1) y0 y1 y2 y3 y4 y5))∧(∀ y0 y1 y2,LeO (spec_l92Threads.l2 k y0 y1 y2) (spec_l92Threads.l2 (k + 1) y0 y1 y2))
 | 0=>⟨fun _ _ _ _ r h=>by simp [spec_l92Threads.l0] at h,fun _ _ _ _ _ _ r h=>by simp [spec_l92Threads.l1] at h,fun _ _ _ r h=>by simp [spec_l92Threads.l2] at h⟩
 | k + 1=>by
  obtain ⟨ih0,ih1,ih2⟩:=spec_l92Threads.mono_l k
  refine ⟨?_,?_,?_⟩
  ·intro y0 y1 y2 y3
   unfold spec_l92Threads.l0
   repeat' first
   | (with_reducible exact ih0 _ _ _ _)
   | (with_reducible exact ih1 _ _ _ _ _ _)
   | (with_reducible exact ih2 _ _ _)
   | (with_reducible exact spec_l6Rd_pick.mono _ _ _ _)
   | (with_reducible exact LeO.refl _)
   | (with_reducible exact LeO.none _)
   | (with_reducible refine LeO.ite ?_ ?_)
   | (with_reducible refine LeO.bind ?_ (fun _=>?_))
   | exact ih0 _ _ _ _
   | exact ih1 _ _ _ _ _ _
   | exact ih2 _ _ _
   | exact spec_l6Rd_pick.mono _ _ _ _
   | exact LeO.none _
   | refine LeO.ite ?_ ?_
   | refine LeO.bind ?_ (fun _=>?_)
  ·intro y0 y1 y2 y3 y4 y5
   unfold spec_l92Threads.l1
   repeat' first
   | (with_reducible exact ih0 _ _ _ _)
   | (with_reducible exact ih1 _ _ _ _ _ _)
   | (with_reducible exact ih2 _ _ _)
   | (with_reducible exact spec_l6Rd_pick.mono _ _ _ _)
   | (with_reducible exact LeO.refl _)
   | (with_reducible exact LeO.none _)
   | (with_reducible refine LeO.ite ?_ ?_)
   | (with_reducible refine LeO.bind ?_ (fun _=>?_))
   | exact ih0 _ _ _ _
   | exact ih1 _ _ _ _ _ _
   | exact ih2 _ _ _
   | exact spec_l6Rd_pick.mono _ _ _ _
   | exact LeO.none _
   | refine LeO.ite ?_ ?_
   | refine LeO.bind ?_ (fun _=>?_)
  ·intro y0 y1 y2
   unfold spec_l92Threads.l2
   repeat' first
   | (with_reducible exact ih0 _ _ _ _)
   | (with_reducible exact ih1 _ _ _ _ _ _)
   | (with_reducible exact ih2 _ _ _)
   | (with_reducible exact spec_l6Rd_pick.mono _ _ _ _)
   | (with_reducible exact LeO.refl _)
   | (with_reducible exact LeO.none _)
   | (with_reducible refine LeO.ite ?_ ?_)
   | (with_reducible refine LeO.bind ?_ (fun _=>?_))
   | exact ih0 _ _ _ _
   | exact ih1 _ _ _ _ _ _
   | exact ih2 _ _ _
   | exact spec_l6Rd_pick.mono _ _ _ _
   | exact LeO.none _
   | refine LeO.ite ?_ ?_
   | refine LeO.bind ?_ (fun _=>?_)
theorem spec_l92Threads.mono:∀ a0 a1 k,LeO (spec_l92Threads.f k a0 a1) (spec_l92Threads.f (k + 1) a0 a1):=by
 intro a0 a1 k
 obtain ⟨ih0,ih1,ih2⟩:=spec_l92Threads.mono_l k
 unfold spec_l92Threads.f
 repeat' first
   | (with_reducible exact ih0 _ _ _ _)
   | (with_reducible exact ih1 _ _ _ _ _ _)
   | (with_reducible exact ih2 _ _ _)
   | (with_reducible exact spec_l6Rd_pick.mono _ _ _ _)
   | (with_reducible exact LeO.refl _)
   | (with_reducible exact LeO.none _)
   | (with_reducible refine LeO.ite ?_ ?_)
   | (with_reducible refine LeO.bind ?_ (fun _=>?_))
   | exact ih0 _ _ _ _
   | exact ih1 _ _ _ _ _ _
   | exact ih2 _ _ _
   | exact spec_l6Rd_pick.mono _ _ _ _
   | exact LeO.none _
   | refine LeO.ite ?_ ?_
   | refine LeO.bind ?_ (fun _=>?_)
set_option maxHeartbeats 8000000 in
set_option maxRecDepth 100000 in
theorem spec_l92Threads.calls (k:Nat) (g:Nat) (s0_0:List Int) (s0_1:Int) (r1:List (List Int)) (r2:Int) (w0 w:World) (hI:IsS86 w0 w g s0_0 s0_1) (hB:Below w0.heap.size w0 w) (h:spec_l92Threads.f k s0_0 s0_1 = some (r1,r2)) :
  Calls Try.prog 54 #[.pointer (some ⟨g,0,none⟩)] w fun e w'=>∃ v0_:Value,e = .returned (v0_)∧Kd.S (Kd.slice 3 (Kd.int .i64)) 27 w' w.heap.size (fun _=>True) v0_ r1∧IsS86 w0 w' g s0_0 r2∧Below w0.heap.size w0 w'∧KeepBut w w' g none:=by
 have HI0:=Aside0.mk hI
 have HK:=Aside0.mk (KeepBut.refl w g none)
 have HL:=Aside0.mk hB.size
 clear hI
 have HW0:=Aside0.mk hB.size
 have HB:=Aside0.mk hB
 clear hB
 have H:((spec_l6Rd_pick.f k s0_0 s0_1 4).bind fun bt110=>(spec_l92Threads.l0 k (([]:List (List Int))) (wrap64 (1 + bt110.1)) s0_0 bt110.2)) = some (r1,r2):=h
 clear h
 obtain ⟨y107,hy107⟩:∃ y_:List (List Int),y_ = (([]:List (List Int))):=⟨_,rfl⟩
 replace H:((spec_l6Rd_pick.f k s0_0 s0_1 4).bind fun bt110=>(spec_l92Threads.l0 k y107 (wrap64 (1 + bt110.1)) s0_0 bt110.2)) = some (r1,r2):=by first | (rw [hy107];with_reducible exact H) | (have H2_:=(Option.bind_some _ _).symm.trans H;rw [hy107];with_reducible exact H2_) | (have H2_:=(Option.bind_some _ _).symm.trans H;with_reducible exact H2_) | with_reducible exact H | (rw [hy107];exact H) | exact H
 have Ny107:=Aside0.mk hy107
 clear hy107
 replace H:=Option.bind_eq_some_iff.mp H
 obtain ⟨⟨t110,t111⟩,A20,H⟩:=H
 replace H:(spec_l92Threads.l0 k y107 (wrap64 (1 + t110)) s0_0 t111) = some (r1,r2):=H
 have A2:=Aside0.mk A20
 clear A20
 have H':=Aside0.mk H
 clear H
 go_enter Try.func54,Try.ntmps54
 go_wp2_with (first | ((with_reducible refine gate_dst (N:=7) rfl ?_);refine Kd.S_lit (Kd.slice 3 (Kd.int .i64)) _ 27 ?hg (N:=7) ?hd (xs:=([]:List (List Int))) (inner:=[]) (ok:=fun _=>True) (okp:=fun _=>True) ?hr ?hp (fun _ hk=>hk) trivial (Below.refl _ _) (Nat.le_refl _) (by simp) ?_;(case hd=>rfl);(case hg=>rfl);(case hr=>first | (go_simp;done) | (go_simp;rfl));(case hp=>exact (Reps.none _ _));intro v108 w3 ho4 hb hg_ hnew_;clear hg_ hnew_;(first | rw [← Ny107.out] at ho4 | (simp only [Int.reduceToNat] at ho4;rw [← Ny107.out] at ho4));have n0_:=Aside0.mk (Kd.S_lower ho4 (keep_size (w:=w) (g:=g) (row:=none) (by repeat (first | (with_reducible first | exact HK.out | apply KeepBut.set_ | apply keep_drewN | apply keep_drew | apply keep_alloc) | exact HK.out))));have n1_:=Aside0.mk (IsS86.below (by repeat (first | (with_reducible first | exact HI0.out | apply IsS86.alloc | apply IsS86.drewN | apply IsS86.drew | apply IsS86.set_1) | exact HI0.out)) hb);have n2_:=Aside0.mk (KeepBut.trans (by repeat (first | (with_reducible first | exact HK.out | apply KeepBut.set_ | apply keep_drewN | apply keep_drew | apply keep_alloc) | exact HK.out)) (KeepBut.of_below hb g none) (.inl rfl));have n3_:=Aside0.mk (below_step (by repeat (first | (with_reducible first | exact HB.out | apply below_alloc | apply pw_below_drewN | apply below_drew1 | refine below_set ?_ (IsS86.ge HI0.out)) | exact HB.out)) hb);clear HI0;clear HK;clear HB;have HO109:=n0_;have HI0:=n1_;have HK:=n2_;have HB:=n3_;clear n0_ n1_ n2_ n3_;clear hb ho4) | ((with_reducible refine gate_callee (f:=65) rfl ?_);refine goesL_ (some 9) rfl rfl Try.func65 (by kernel_rfl) rfl #[.pointer (some ⟨g,0,none⟩),.int .i64 4] rfl (by (try simp only [List.map_toArray,List.map_cons,List.map_nil]);first | done | rfl | (simp only [List.length_drop,List.length_take];rfl)) ?_;(with_reducible refine (spec_l6Rd_pick.calls k g s0_0 s0_1 4 t110 t111 w0 _ ?side1 ?side2 A2.out).mono ?_);(case side1=>repeat (first | (with_reducible first | exact HI0.out | apply IsS86.alloc | apply IsS86.drewN | apply IsS86.drew | apply IsS86.set_1) | exact HI0.out));(case side2=>repeat (first | (with_reducible first | exact HB.out | apply below_alloc | apply pw_below_drewN | apply below_drew1 | refine below_set ?_ (IsS86.ge HI0.out)) | exact HB.out));rintro e w5 ⟨rfl,hi,hb,hk⟩;refine ⟨_,rfl,?_⟩;have n0_:=Aside0.mk (Kd.S_mono (Kd.S_keep (IsS86.apartS (show IsS86 w0 _ g s0_0 s0_1 from by repeat (first | (with_reducible first | exact HI0.out | apply IsS86.alloc | apply IsS86.drewN | apply IsS86.drew | apply IsS86.set_1) | exact HI0.out)) (by (with_reducible repeat (first | apply Kd.S_alloc | apply Kd.S_drewN | apply Kd.S_drew));exact HO109.out) (by decide)) hk (fun _ h=>h.2)) (fun _ h=>h.1));have n1_:=Aside0.mk (KeepBut.trans (by repeat (first | (with_reducible first | exact HK.out | apply KeepBut.set_ | apply keep_drewN | apply keep_drew | apply keep_alloc) | exact HK.out)) hk (.inl rfl));have n2_:=Aside0.mk (hb);have n3_:=Aside0.mk (hi);clear HO109;clear HK;clear HB;clear HI0;have HO109:=n0_;have HK:=n1_;have HB:=n2_;have HI0:=n3_;clear n0_ n1_ n2_ n3_;(try clear hb);(try clear hb2);(try clear hk);(try clear hi)))
 go_loopg [3,4] k (fun kq v3 v4 w'=>∃ (x3_1:List (List Int)) (x4_1:Int) (x1001_1:Int),v4 = .int .i64 x4_1∧Aside0 (spec_l92Threads.l0 kq x3_1 x4_1 s0_0 x1001_1 = some (r1,r2))∧Aside0 (kq ≤ k)∧Aside0 (Kd.S (Kd.slice 3 (Kd.int .i64)) 27 w' w.heap.size (fun _=>True) v3 x3_1)∧Aside0 (IsS86 w0 w' g s0_0 x1001_1)∧Aside0 (KeepBut w w' g none)∧Aside0 (Below w0.heap.size w0 w'))
 case atStart=>exact ⟨(y107),(wrap64 (1 + t110)),(t111),(by first | rfl | (simp;done) | (simp [*];done)),H',⟨Nat.le_refl _⟩,⟨by (with_reducible repeat (first | apply Kd.S_alloc | apply Kd.S_drewN | apply Kd.S_drew));exact HO109.out⟩,⟨by repeat (first | (with_reducible first | exact HI0.out | apply IsS86.alloc | apply IsS86.drewN | apply IsS86.drew | apply IsS86.set_1) | exact HI0.out)⟩,⟨by repeat (first | (with_reducible first | exact HK.out | apply KeepBut.set_ | apply keep_drewN | apply keep_drew | apply keep_alloc) | exact HK.out)⟩,⟨by repeat (first | (with_reducible first | exact HB.out | apply below_alloc | apply pw_below_drewN | apply below_drew1 | refine below_set ?_ (IsS86.ge HI0.out)) | exact HB.out)⟩⟩
 case round =>
  clear H'
  try clear p2
  try clear c5
  obtain ⟨x3_1,x4_1,x1001_1,rfl,HA,HK1,HO_3,HI0,HK,HB⟩:=hrel
  cases gk with
  | zero=>exact absurd HA.out (by simp [spec_l92Threads.l0])
  | succ k1 =>
   have H:=HA.out
   clear HA
   simp only [spec_l92Threads.l0] at H
   by_cases c6:x4_1 > 0
   ·rw [if_pos c6] at H
    have c6b0:decide (0 < x4_1) = true:=decide_eq_true c6
    clear c6
    obtain ⟨y112,hy112⟩:∃ y_:List Int,y_ = (([]:List Int)):=⟨_,rfl⟩
    replace H:((spec_l6Rd_pick.f k1 s0_0 x1001_1 6).bind fun bt115=>(spec_l92Threads.l1 k1 x3_1 x4_1 y112 bt115.1 s0_0 bt115.2)) = some (r1,r2):=by first | (rw [hy112];with_reducible exact H) | (have H2_:=(Option.bind_some _ _).symm.trans H;rw [hy112];with_reducible exact H2_) | (have H2_:=(Option.bind_some _ _).symm.trans H;with_reducible exact H2_) | with_reducible exact H | (rw [hy112];exact H) | exact H
    have Ny112:=Aside0.mk hy112
    clear hy112
    replace H:=Option.bind_eq_some_iff.mp H
    obtain ⟨⟨t115,t116⟩,A70,H⟩:=H
    replace H:(spec_l92Threads.l1 k1 x3_1 x4_1 y112 t115 s0_0 t116) = some (r1,r2):=H
    have A7:=Aside0.mk A70
    clear A70
    have H':=Aside0.mk H
    clear H
    go_wp2_with (first | ((with_reducible refine gate_dst (N:=15) rfl ?_);refine Kd.R_lit (Kd.int .i64) _ 3 ?hg (N:=15) ?hd (xs:=([]:List Int)) (inner:=[]) (ok:=fun _=>True) (okp:=fun _=>True) ?hr ?hp (fun _ hk=>hk) trivial (Below.refl _ _) (Nat.le_refl _) (by simp) ?_;(case hd=>rfl);(case hg=>rfl);(case hr=>first | (go_simp;done) | (go_simp;rfl));(case hp=>exact (Reps.none _ _));intro v113 w8 ho9 hb hg_ hnew_;clear hg_ hnew_;(first | rw [← Ny112.out] at ho9 | (simp only [Int.reduceToNat] at ho9;rw [← Ny112.out] at ho9));have n0_:=Aside0.mk (Kd.S_elder' (by (with_reducible repeat (first | apply Kd.S_alloc | apply Kd.S_drewN | apply Kd.S_drew));exact HO_3.out) (Kd.R_base ho9) hb);have n1_:=Aside0.mk (Kd.R_lower ho9 (keep_size (w:=w) (g:=g) (row:=none) (by repeat (first | (with_reducible first | exact HK.out | apply KeepBut.set_ | apply keep_drewN | apply keep_drew | apply keep_alloc) | exact HK.out))));have n2_:=Aside0.mk (IsS86.below (by repeat (first | (with_reducible first | exact HI0.out | apply IsS86.alloc | apply IsS86.drewN | apply IsS86.drew | apply IsS86.set_1) | exact HI0.out)) hb);have n3_:=Aside0.mk (KeepBut.trans (by repeat (first | (with_reducible first | exact HK.out | apply KeepBut.set_ | apply keep_drewN | apply keep_drew | apply keep_alloc) | exact HK.out)) (KeepBut.of_below hb g none) (.inl rfl));have n4_:=Aside0.mk (below_step (by repeat (first | (with_reducible first | exact HB.out | apply below_alloc | apply pw_below_drewN | apply below_drew1 | refine below_set ?_ (IsS86.ge HI0.out)) | exact HB.out)) hb);clear HO_3;clear HI0;clear HK;clear HB;have HO_3:=n0_;have HO114:=n1_;have HI0:=n2_;have HK:=n3_;have HB:=n4_;clear n0_ n1_ n2_ n3_ n4_;clear hb ho9) | ((with_reducible refine gate_callee (f:=65) rfl ?_);refine goesL_ (some 17) rfl rfl Try.func65 (by kernel_rfl) rfl #[.pointer (some ⟨g,0,none⟩),.int .i64 6] rfl (by (try simp only [List.map_toArray,List.map_cons,List.map_nil]);first | done | rfl | (simp only [List.length_drop,List.length_take];rfl)) ?_;(with_reducible refine (spec_l6Rd_pick.calls k1 g s0_0 x1001_1 6 t115 t116 w0 _ ?side1 ?side2 A7.out).mono ?_);(case side1=>repeat (first | (with_reducible first | exact HI0.out | apply IsS86.alloc | apply IsS86.drewN | apply IsS86.drew | apply IsS86.set_1) | exact HI0.out));(case side2=>repeat (first | (with_reducible first | exact HB.out | apply below_alloc | apply pw_below_drewN | apply below_drew1 | refine below_set ?_ (IsS86.ge HI0.out)) | exact HB.out));rintro e w10 ⟨rfl,hi,hb,hk⟩;refine ⟨_,rfl,?_⟩;have n0_:=Aside0.mk (Kd.S_mono (Kd.S_keep (IsS86.apartS (show IsS86 w0 _ g s0_0 x1001_1 from by repeat (first | (with_reducible first | exact HI0.out | apply IsS86.alloc | apply IsS86.drewN | apply IsS86.drew | apply IsS86.set_1) | exact HI0.out)) (by (with_reducible repeat (first | apply Kd.S_alloc | apply Kd.S_drewN | apply Kd.S_drew));exact HO_3.out) (by decide)) hk (fun _ h=>h.2)) (fun _ h=>h.1));have n1_:=Aside0.mk (Kd.R_mono (Kd.R_keep (IsS86.apart (show IsS86 w0 _ g s0_0 x1001_1 from by repeat (first | (with_reducible first | exact HI0.out | apply IsS86.alloc | apply IsS86.drewN | apply IsS86.drew | apply IsS86.set_1) | exact HI0.out)) (by (with_reducible repeat (first | apply Kd.R_alloc | apply Kd.R_drewN | apply Kd.R_drew));exact HO114.out) (by decide)) hk (fun _ h=>h.2)) (fun _ h=>h.1));have n2_:=Aside0.mk (KeepBut.trans (by repeat (first | (with_reducible first | exact HK.out | apply KeepBut.set_ | apply keep_drewN | apply keep_drew | apply keep_alloc) | exact HK.out)) hk (.inl rfl));have n3_:=Aside0.mk (hb);have n4_:=Aside0.mk (hi);clear HO_3;clear HO114;clear HK;clear HB;clear HI0;have HO_3:=n0_;have HO114:=n1_;have HK:=n2_;have HB:=n3_;have HI0:=n4_;clear n0_ n1_ n2_ n3_ n4_;(try clear hb);(try clear hb2);(try clear hk);(try clear hi)))
    go_loopg [5,6] k1 (fun kq v5 v6 w'=>∃ (x5_2:List Int) (x6_2:Int) (x1001_2:Int),v6 = .int .i64 x6_2∧Aside0 (spec_l92Threads.l1 kq x3_1 x4_1 x5_2 x6_2 s0_0 x1001_2 = some (r1,r2))∧Aside0 (kq ≤ k1)∧Aside0 (Kd.S (Kd.slice 3 (Kd.int .i64)) 27 w' w.heap.size (fun k_=>some k_ ≠ (v5:Value).ownBlock) u3 x3_1)∧Aside0 (Kd.R (Kd.int .i64) 3 w' w.heap.size (fun _=>True) v5 x5_2)∧Aside0 (IsS86 w0 w' g s0_0 x1001_2)∧Aside0 (KeepBut w w' g none)∧Aside0 (Below w0.heap.size w0 w'))
    case atStart=>exact ⟨(y112),(t115),(t116),(by first | rfl | (simp;done) | (simp [*];done)),H',⟨Nat.le_refl _⟩,⟨by (with_reducible repeat (first | apply Kd.S_alloc | apply Kd.S_drewN | apply Kd.S_drew));exact Kd.S_mono HO_3.out (fun _ hk=>hk.2)⟩,⟨by (with_reducible repeat (first | apply Kd.R_alloc | apply Kd.R_drewN | apply Kd.R_drew));exact HO114.out⟩,⟨by repeat (first | (with_reducible first | exact HI0.out | apply IsS86.alloc | apply IsS86.drewN | apply IsS86.drew | apply IsS86.set_1) | exact HI0.out)⟩,⟨by repeat (first | (with_reducible first | exact HK.out | apply KeepBut.set_ | apply keep_drewN | apply keep_drew | apply keep_alloc) | exact HK.out)⟩,⟨by repeat (first | (with_reducible first | exact HB.out | apply below_alloc | apply pw_below_drewN | apply below_drew1 | refine below_set ?_ (IsS86.ge HI0.out)) | exact HB.out)⟩⟩
    case round =>
     clear H'
     try clear p2
     try clear c5
     try clear c6
     try clear c6b0
     try clear p6
     try clear p2
     obtain ⟨x5_2,x6_2,x1001_2,rfl,HA,HK2,HO_3,HO_5,HI0,HK,HB⟩:=hrel
     cases gk with
     | zero=>exact absurd HA.out (by simp [spec_l92Threads.l1])
     | succ k2 =>
      have H:=HA.out
      clear HA
      simp only [spec_l92Threads.l1] at H
      by_cases c11:x6_2 > 0
      ·rw [if_pos c11] at H
       have c11b0:decide (0 < x6_2) = true:=decide_eq_true c11
       clear c11
       replace H:=Option.bind_eq_some_iff.mp H
       obtain ⟨⟨t117,t118⟩,A120,H⟩:=H
       replace H:(if x5_2.length < 17592186044416 then (spec_l92Threads.l1 k2 x3_1 x4_1 (x5_2 ++ [wrap64 (t117 - 1)]) (wrap64 (x6_2 - 1)) s0_0 t118) else (none)) = some (r1,r2):=H
       have A12:=Aside0.mk A120
       clear A120
       by_cases c13:x5_2.length < 17592186044416
       ·rw [if_pos c13] at H
        have LMc13:=Aside0.mk c13
        clear c13
        obtain ⟨y119,hy119⟩:∃ y_:List Int,y_ = (x5_2 ++ [wrap64 (t117 - 1)]):=⟨_,rfl⟩
        replace H:(spec_l92Threads.l1 k2 x3_1 x4_1 y119 (wrap64 (x6_2 - 1)) s0_0 t118) = some (r1,r2):=by first | (rw [hy119];with_reducible exact H) | (have H2_:=(Option.bind_some _ _).symm.trans H;rw [hy119];with_reducible exact H2_) | (have H2_:=(Option.bind_some _ _).symm.trans H;with_reducible exact H2_) | with_reducible exact H | (rw [hy119];exact H) | exact H
        have Ny119:=Aside0.mk hy119
        clear hy119
        have H':=Aside0.mk H
        clear H
        go_wp2_with (first | ((with_reducible refine gate_callee (f:=65) rfl ?_);refine goesL_ (some 24) rfl rfl Try.func65 (by kernel_rfl) rfl #[.pointer (some ⟨g,0,none⟩),.int .i64 3] rfl (by (try simp only [List.map_toArray,List.map_cons,List.map_nil]);first | done | rfl | (simp only [List.length_drop,List.length_take];rfl)) ?_;(with_reducible refine (spec_l6Rd_pick.calls k2 g s0_0 x1001_2 3 t117 t118 w0 _ ?side1 ?side2 A12.out).mono ?_);(case side1=>repeat (first | (with_reducible first | exact HI0.out | apply IsS86.alloc | apply IsS86.drewN | apply IsS86.drew | apply IsS86.set_1) | exact HI0.out));(case side2=>repeat (first | (with_reducible first | exact HB.out | apply below_alloc | apply pw_below_drewN | apply below_drew1 | refine below_set ?_ (IsS86.ge HI0.out)) | exact HB.out));rintro e w14 ⟨rfl,hi,hb,hk⟩;refine ⟨_,rfl,?_⟩;have n0_:=Aside0.mk (Kd.S_mono (Kd.S_keep (IsS86.apartS (show IsS86 w0 _ g s0_0 x1001_2 from by repeat (first | (with_reducible first | exact HI0.out | apply IsS86.alloc | apply IsS86.drewN | apply IsS86.drew | apply IsS86.set_1) | exact HI0.out)) (by (with_reducible repeat (first | apply Kd.S_alloc | apply Kd.S_drewN | apply Kd.S_drew));exact HO_3.out) (by decide)) hk (fun _ h=>h.2)) (fun _ h=>h.1));have n1_:=Aside0.mk (Kd.R_mono (Kd.R_keep (IsS86.apart (show IsS86 w0 _ g s0_0 x1001_2 from by repeat (first | (with_reducible first | exact HI0.out | apply IsS86.alloc | apply IsS86.drewN | apply IsS86.drew | apply IsS86.set_1) | exact HI0.out)) (by (with_reducible repeat (first | apply Kd.R_alloc | apply Kd.R_drewN | apply Kd.R_drew));exact HO_5.out) (by decide)) hk (fun _ h=>h.2)) (fun _ h=>h.1));have n2_:=Aside0.mk (KeepBut.trans (by repeat (first | (with_reducible first | exact HK.out | apply KeepBut.set_ | apply keep_drewN | apply keep_drew | apply keep_alloc) | exact HK.out)) hk (.inl rfl));have n3_:=Aside0.mk (hb);have n4_:=Aside0.mk (hi);clear HO_3;clear HO_5;clear HK;clear HB;clear HI0;have HO_3:=n0_;have HO_5:=n1_;have HK:=n2_;have HB:=n3_;have HI0:=n4_;clear n0_ n1_ n2_ n3_ n4_;(try clear hb);(try clear hb2);(try clear hk);(try clear hi)) | ((with_reducible refine gate_builtin (b:=.append) (xs:=#[.tmp 22,.tmp 26]) rfl ?_);at_builtin;refine Kd.R_append (Kd.int .i64) w.heap.size rfl (.tmp 22) (.tmp 26) 27 3 (.int .i64 0) 8 rfl Try.underlying27 info3 rfl (by decide) (by omega) u5 x5_2 (wrap64 (t117 - 1)) [.int .i64 (wrap64 (t117 - 1))] (fun _=>True) (fun _=>False) rfl rfl ?aP (fun _ hk=>hk.elim) ?aF ?aO (Below.refl _ _) ?aS ?aL ?_;(case aP=>exact rfl);(case aF=>exact (fun _ _=>trivial));(case aO=>exact (by (with_reducible repeat (first | apply Kd.R_alloc | apply Kd.R_drewN | apply Kd.R_drew));exact HO_5.out));(case aS=>exact (keep_size (w:=w) (g:=g) (row:=none) (by repeat (first | (with_reducible first | exact HK.out | apply KeepBut.set_ | apply keep_drewN | apply keep_drew | apply keep_alloc) | exact HK.out))));(case aL=>have:=LMc13.out;omega);intro v120 w15 ho hb hg hat;rw [← Ny119.out] at ho;have n0_:=Aside0.mk (Kd.S_after (ok:=(fun _=>True)) (by (with_reducible repeat (first | apply Kd.S_alloc | apply Kd.S_drewN | apply Kd.S_drew));exact Kd.S_mono HO_3.out (fun _ hk=>⟨trivial,hk⟩)) hg hat);have n1_:=Aside0.mk (IsS86.grown (by repeat (first | (with_reducible first | exact HI0.out | apply IsS86.alloc | apply IsS86.drewN | apply IsS86.drew | apply IsS86.set_1) | exact HI0.out)) hg (IsS86.own_ne HI0.out HO_5.out (by decide)));have n2_:=Aside0.mk (below_weaken (by repeat (first | (with_reducible first | exact HB.out | apply below_alloc | apply pw_below_drewN | apply below_drew1 | refine below_set ?_ (IsS86.ge HI0.out)) | exact HB.out)) HL.out hb);have n3_:=Aside0.mk (KeepBut.trans (by repeat (first | (with_reducible first | exact HK.out | apply KeepBut.set_ | apply keep_drewN | apply keep_drew | apply keep_alloc) | exact HK.out)) (KeepBut.of_grown hg g) (Kd.R_base2 HO_5.out));have n4_:=Aside0.mk (ho);clear HO_3;clear HI0;clear HB;clear HK;clear HO_5;have HO_3:=n0_;have HI0:=n1_;have HB:=n2_;have HK:=n3_;have HO121:=n4_;clear n0_ n1_ n2_ n3_ n4_;clear ho hb hg hat))
        go_roundg k2
        case measure=>have:=HK1.out;have:=HK2.out;omega
        case rel=>exact ⟨(y119),(wrap64 (x6_2 - 1)),(t118),(by first | rfl | (simp;done) | (simp [*];done)),H',⟨by have:=HK1.out;have:=HK2.out;omega⟩,⟨by (with_reducible repeat (first | apply Kd.S_alloc | apply Kd.S_drewN | apply Kd.S_drew));exact Kd.S_mono HO_3.out (fun _ hk=>hk.2)⟩,⟨by (with_reducible repeat (first | apply Kd.R_alloc | apply Kd.R_drewN | apply Kd.R_drew));exact HO121.out⟩,⟨by repeat (first | (with_reducible first | exact HI0.out | apply IsS86.alloc | apply IsS86.drewN | apply IsS86.drew | apply IsS86.set_1) | exact HI0.out)⟩,⟨by repeat (first | (with_reducible first | exact HK.out | apply KeepBut.set_ | apply keep_drewN | apply keep_drew | apply keep_alloc) | exact HK.out)⟩,⟨by repeat (first | (with_reducible first | exact HB.out | apply below_alloc | apply pw_below_drewN | apply below_drew1 | refine below_set ?_ (IsS86.ge HI0.out)) | exact HB.out)⟩⟩
       ·rw [if_neg c13] at H
        exact absurd H (by simp)
      ·rw [if_neg c11] at H
       have c11b0:decide (0 < x6_2) = false:=decide_eq_false c11
       clear c11
       by_cases c16:x3_1.length < 5864062014805
       ·rw [if_pos c16] at H
        have LMc16:=Aside0.mk c16
        clear c16
        obtain ⟨y122,hy122⟩:∃ y_:List (List Int),y_ = (x3_1 ++ [x5_2]):=⟨_,rfl⟩
        replace H:(spec_l92Threads.l0 k2 y122 (wrap64 (x4_1 - 1)) s0_0 x1001_2) = some (r1,r2):=by first | (rw [hy122];with_reducible exact H) | (have H2_:=(Option.bind_some _ _).symm.trans H;rw [hy122];with_reducible exact H2_) | (have H2_:=(Option.bind_some _ _).symm.trans H;with_reducible exact H2_) | with_reducible exact H | (rw [hy122];exact H) | exact H
        have Ny122:=Aside0.mk hy122
        clear hy122
        have H':=Aside0.mk H
        clear H
        obtain ⟨Ao18,co18,eo18⟩:=Kd.R_slice HO_5.out
        subst eo18
        go_wp2_with (first | ((with_reducible refine gate_builtin (b:=.append) (xs:=#[.tmp 28,.tmp 30]) rfl ?_);at_builtin;refine Kd.S_append (Kd.slice 3 (Kd.int .i64)) w.heap.size rfl (.tmp 28) (.tmp 30) 23 27 (.slice none 0 0) 24 rfl Try.underlying23 info27 rfl (by decide) (by omega) u3 x3_1 x5_2 [.slice Ao18 x5_2.length co18] (fun _=>True) (fun k_=>some k_ = (.slice Ao18 x5_2.length co18:Value).ownBlock) rfl rfl ?aP (fun k_ hk_=>((Kd.R_mono (ok':=fun k_=>((fun _=>True)) k_∧some k_ ≠ (u3:Value).ownBlock) (Kd.R_apart' (HO_5.out) (Kd.S_typed HO_3.out) (by decide)) (fun k_ hk=>⟨trivial,hk.2⟩))).1 k_ hk_.symm) ?aF ?aO (Below.refl _ _) ?aS ?aL ?_;(case aP=>exact Kd.M_row (Kd.R_mono (Kd.R_tight rfl (Kd.R_mono (ok':=fun k_=>((fun _=>True)) k_∧some k_ ≠ (u3:Value).ownBlock) (Kd.R_apart' (HO_5.out) (Kd.S_typed HO_3.out) (by decide)) (fun k_ hk=>⟨trivial,hk.2⟩))) (fun _ h_=>h_)));(case aF=>exact (fun _ _=>trivial));(case aO=>exact (by (with_reducible repeat (first | apply Kd.S_alloc | apply Kd.S_drewN | apply Kd.S_drew));exact Kd.S_mono HO_3.out (fun k_ hk=>⟨trivial,fun e_=>hk e_⟩)));(case aS=>exact (keep_size (w:=w) (g:=g) (row:=none) (by repeat (first | (with_reducible first | exact HK.out | apply KeepBut.set_ | apply keep_drewN | apply keep_drew | apply keep_alloc) | exact HK.out))));(case aL=>have:=LMc16.out;omega);intro v123 w17 ho hb hg hat;rw [← Ny122.out] at ho;have n0_:=Aside0.mk (IsS86.grown (by repeat (first | (with_reducible first | exact HI0.out | apply IsS86.alloc | apply IsS86.drewN | apply IsS86.drew | apply IsS86.set_1) | exact HI0.out)) hg (IsS86.own_neS HI0.out HO_3.out (by decide)));have n1_:=Aside0.mk (below_weaken (by repeat (first | (with_reducible first | exact HB.out | apply below_alloc | apply pw_below_drewN | apply below_drew1 | refine below_set ?_ (IsS86.ge HI0.out)) | exact HB.out)) HL.out hb);have n2_:=Aside0.mk (KeepBut.trans (by repeat (first | (with_reducible first | exact HK.out | apply KeepBut.set_ | apply keep_drewN | apply keep_drew | apply keep_alloc) | exact HK.out)) (KeepBut.of_grown hg g) (Kd.S_base2 HO_3.out));have n3_:=Aside0.mk (ho);clear HI0;clear HB;clear HK;clear HO_3;clear HO_5;have HI0:=n0_;have HB:=n1_;have HK:=n2_;have HO124:=n3_;clear n0_ n1_ n2_ n3_;clear ho hb hg hat))
        go_roundg k2
        case measure=>have:=HK1.out;have:=HK2.out;omega
        case rel=>exact ⟨(y122),(wrap64 (x4_1 - 1)),(x1001_2),(by first | rfl | (simp;done) | (simp [*];done)),H',⟨by have:=HK1.out;have:=HK2.out;omega⟩,⟨by (with_reducible repeat (first | apply Kd.S_alloc | apply Kd.S_drewN | apply Kd.S_drew));exact HO124.out⟩,⟨by repeat (first | (with_reducible first | exact HI0.out | apply IsS86.alloc | apply IsS86.drewN | apply IsS86.drew | apply IsS86.set_1) | exact HI0.out)⟩,⟨by repeat (first | (with_reducible first | exact HK.out | apply KeepBut.set_ | apply keep_drewN | apply keep_drew | apply keep_alloc) | exact HK.out)⟩,⟨by repeat (first | (with_reducible first | exact HB.out | apply below_alloc | apply pw_below_drewN | apply below_drew1 | refine below_set ?_ (IsS86.ge HI0.out)) | exact HB.out)⟩⟩
       ·rw [if_neg c16] at H
        exact absurd H (by simp)
   ·rw [if_neg c6] at H
    have c6b0:decide (0 < x4_1) = false:=decide_eq_false c6
    clear c6
    replace H:=Option.bind_eq_some_iff.mp H
    obtain ⟨⟨t125,t126⟩,A190,H⟩:=H
    replace H:(if t125 = 0 then (if 0 < (x3_1.length:Int) then (if (rd_L2 x3_1 0).length < 17592186044416 then (some ((x3_1.set (0:Int).toNat ((rd_L2 x3_1 0) ++ [9])),t126)) else (none)) else (none)) else (if t125 = 1 then (spec_l92Threads.l2 k1 x3_1 s0_0 t126) else (some (x3_1,t126)))) = some (r1,r2):=H
    have A19:=Aside0.mk A190
    clear A190
    by_cases c20:t125 = 0
    ·rw [if_pos c20] at H
     have c20b0:(t125 == 0) = true:=beq_iff_eq.mpr c20
     have c20b1:(t125 != 0) = false:=bne_eq_false_iff_eq.mpr c20
     clear c20
     by_cases c21:0 < (x3_1.length:Int)
     ·rw [if_pos c21] at H
      have c21b0:decide (0 < (x3_1.length:Int)) = true:=decide_eq_true c21
      have c21b1:decide (0 < x3_1.length) = true:=decide_eq_true (by omega)
      clear c21
      by_cases c22:(rd_L2 x3_1 0).length < 17592186044416
      ·rw [if_pos c22] at H
       have LMc22:=Aside0.mk c22
       clear c22
       obtain ⟨y128,hy128⟩:∃ y_:List Int,y_ = ((rd_L2 x3_1 0) ++ [9]):=⟨_,rfl⟩
       replace H:(some ((x3_1.set (0:Int).toNat y128),t126)) = some (r1,r2):=by first | (rw [hy128];with_reducible exact H) | (have H2_:=(Option.bind_some _ _).symm.trans H;rw [hy128];with_reducible exact H2_) | (have H2_:=(Option.bind_some _ _).symm.trans H;with_reducible exact H2_) | with_reducible exact H | (rw [hy128];exact H) | exact H
       have Ny128:=Aside0.mk hy128
       clear hy128
       obtain ⟨y131,hy131⟩:∃ y_:List (List Int),y_ = (x3_1.set (0:Int).toNat y128):=⟨_,rfl⟩
       replace H:(some (y131,t126)) = some (r1,r2):=by first | (rw [hy131];with_reducible exact H) | (have H2_:=(Option.bind_some _ _).symm.trans H;rw [hy131];with_reducible exact H2_) | (have H2_:=(Option.bind_some _ _).symm.trans H;with_reducible exact H2_) | with_reducible exact H | (rw [hy131];exact H) | exact H
       have Ny131:=Aside0.mk hy131
       clear hy131
       simp only [Option.some.injEq,Prod.mk.injEq] at H
       obtain ⟨rfl,rfl⟩:=H
       go_wp2_with (first | ((with_reducible refine gate_callee (f:=65) rfl ?_);refine goesL_ (some 33) rfl rfl Try.func65 (by kernel_rfl) rfl #[.pointer (some ⟨g,0,none⟩),.int .i64 30] rfl (by (try simp only [List.map_toArray,List.map_cons,List.map_nil]);first | done | rfl | (simp only [List.length_drop,List.length_take];rfl)) ?_;(with_reducible refine (spec_l6Rd_pick.calls k1 g s0_0 x1001_1 30 t125 t126 w0 _ ?side1 ?side2 A19.out).mono ?_);(case side1=>repeat (first | (with_reducible first | exact HI0.out | apply IsS86.alloc | apply IsS86.drewN | apply IsS86.drew | apply IsS86.set_1) | exact HI0.out));(case side2=>repeat (first | (with_reducible first | exact HB.out | apply below_alloc | apply pw_below_drewN | apply below_drew1 | refine below_set ?_ (IsS86.ge HI0.out)) | exact HB.out));rintro e w24 ⟨rfl,hi,hb,hk⟩;refine ⟨_,rfl,?_⟩;have n0_:=Aside0.mk (Kd.S_mono (Kd.S_keep (IsS86.apartS (show IsS86 w0 _ g s0_0 x1001_1 from by repeat (first | (with_reducible first | exact HI0.out | apply IsS86.alloc | apply IsS86.drewN | apply IsS86.drew | apply IsS86.set_1) | exact HI0.out)) (by (with_reducible repeat (first | apply Kd.S_alloc | apply Kd.S_drewN | apply Kd.S_drew));exact HO_3.out) (by decide)) hk (fun _ h=>h.2)) (fun _ h=>h.1));have n1_:=Aside0.mk (KeepBut.trans (by repeat (first | (with_reducible first | exact HK.out | apply KeepBut.set_ | apply keep_drewN | apply keep_drew | apply keep_alloc) | exact HK.out)) hk (.inl rfl));have n2_:=Aside0.mk (hb);have n3_:=Aside0.mk (hi);clear HO_3;clear HK;clear HB;clear HI0;have HO_3:=n0_;have HK:=n1_;have HB:=n2_;have HI0:=n3_;clear n0_ n1_ n2_ n3_;(try clear hb);(try clear hb2);(try clear hk);(try clear hi);obtain ⟨Ao25,co25,eo25⟩:=Kd.S_slice HO_3.out;subst eo25;have p127:0 ≤ (0:Int):=(by omega);have q127:0 < (x3_1.length:Int):=of_decide_eq_true (by first | (with_reducible assumption) | assumption);obtain ⟨ad127,A127_0,c127_0,e127,hx127_0,hl127_0,hi127_0⟩:=at_L2 (Kd.S_reads' HO_3.out).2.2 0 p127 q127;cases e127;obtain ⟨ce127,hce127,hMe127,hcc127⟩:=Kd.S_get HO_3.out [] 0 p127 (by first | exact q127 | exact of_decide_eq_true (by first | (with_reducible assumption) | assumption) | (have e_:=(Kd.S_reads' HO_3.out).1;omega));obtain ⟨ve127_0,rfl,ge127_0⟩:=hMe127;have hv127_0:=hcc127 0 _ rfl;rw [Nat.add_zero,show ((Kd.slice 3 (Kd.int .i64))).sz = 1 from rfl,Nat.mul_one] at hv127_0;replace hv127_0:=Option.some.inj (hv127_0.symm.trans hx127_0);rw [hv127_0] at ge127_0;have HL127_0:=Aside0.mk (show Kd.R (Kd.int .i64) 3 _ _ _ _ (rd_L2 x3_1 0) from ge127_0);clear hv127_0 ge127_0;have HX127_0:=Aside0.mk hx127_0;clear hcc127 hce127;have qi127:(0 < x3_1.length) = True:=eq_true (by omega);(try rw [show ((0:Int)).toNat = 0 from rfl] at hx127_0);(try rw [Addr.add_zero'] at hx127_0);have HR127_0:=Aside0.mk hi127_0;have HC127_0:=Aside0.mk hl127_0;clear hi127_0 hl127_0;replace p127:=eq_true p127;replace q127:=eq_true q127;obtain ⟨go26,co26,eo26,gb26,gl26,cl26,HG26⟩:=Kd.S_form HO_3.out (by have h_:(0:Int) < ((x3_1.length:Int):Int):=of_decide_eq_true (by first | (with_reducible assumption) | assumption);have h2_:0 ≤ (0:Int):=(by omega);omega);(first | cases eo26 | (injection eo26 with ea_ en_ ec_;(first | subst ea_ | (injection ea_ with ea_;subst ea_));subst ec_;clear en_));have GB26:=Aside0.mk gb26;have GG26:=Aside0.mk HG26;clear gb26 gl26 HG26;(first | simp only [add_plain] at hx127_0 | skip);obtain ⟨oki26,ce26,hcl26,hM26,hcc26,_,_,hH26⟩:=Kd.S_elem HO_3.out [] (0:Int) (by omega) (by have h_:(0:Int) < ((x3_1.length:Int):Int):=of_decide_eq_true (by first | (with_reducible assumption) | assumption);first | exact h_ | (have e_:=(Kd.S_reads' HO_3.out).1;omega) | simpa using h_);obtain ⟨ve26_0,rfl,ge26_0⟩:=hM26;have hv26:=hcc26 0 _ rfl;have hX26:=HX127_0.out;(try simp only [add_plain] at hX26);(try simp only [Nat.add_zero] at hv26);(try rw [show ((Kd.slice 3 (Kd.int .i64))).sz = 1 from rfl,Nat.mul_one] at hv26);replace hv26:=Option.some.inj (hv26.symm.trans hX26);subst hv26;clear hX26 hcc26 hcl26;have UU26:=Aside0.mk (show Kd.R (Kd.int .i64) 3 _ w.heap.size oki26 (.slice A127_0 (rd_L2 x3_1 0).length c127_0) (rd_L2 x3_1 0) from ge26_0);have HH26:=Aside0.mk hH26;have HN26:=Aside0.mk (Kd.S_reads' HO_3.out).1;clear hH26 ge26_0) | ((with_reducible refine gate_builtin (b:=.append) (xs:=#[.tmp 39,.tmp 40]) rfl ?_);at_builtin;refine Kd.R_append (Kd.int .i64) w.heap.size rfl (.tmp 39) (.tmp 40) 27 3 (.int .i64 0) 8 rfl Try.underlying27 info3 rfl (by decide) (by omega) (.slice A127_0 (rd_L2 x3_1 0).length c127_0) (rd_L2 x3_1 0) 9 [.int .i64 9] (fun k_=>oki26 k_ ∨ ((fun _=>True)) k_∧w24.heap.size ≤ k_) (fun _=>False) rfl rfl ?aP (fun _ hk=>hk.elim) ?aF ?aO (Below.refl _ _) ?aS ?aL ?_;(case aP=>exact rfl);(case aF=>exact (fun k_ hk=>.inr ⟨trivial,hk⟩));(case aO=>exact (by (with_reducible repeat (first | apply Kd.R_alloc | apply Kd.R_drewN | apply Kd.R_drew));exact Kd.R_mono UU26.out (fun _ hk=>.inl hk)));(case aS=>exact (keep_size (w:=w) (g:=g) (row:=none) (by repeat (first | (with_reducible first | exact HK.out | apply KeepBut.set_ | apply keep_drewN | apply keep_drew | apply keep_alloc) | exact HK.out))));(case aL=>have:=LMc22.out;omega);intro v129 w27 ho hb hg hat;rw [← Ny128.out] at ho;have n0_:=Aside0.mk (IsS86.grown (by repeat (first | (with_reducible first | exact HI0.out | apply IsS86.alloc | apply IsS86.drewN | apply IsS86.drew | apply IsS86.set_1) | exact HI0.out)) hg (IsS86.own_ne HI0.out HL127_0.out (by decide)));have n1_:=Aside0.mk (below_weaken (by repeat (first | (with_reducible first | exact HB.out | apply below_alloc | apply pw_below_drewN | apply below_drew1 | refine below_set ?_ (IsS86.ge HI0.out)) | exact HB.out)) HL.out hb);have n2_:=Aside0.mk (KeepBut.trans (by repeat (first | (with_reducible first | exact HK.out | apply KeepBut.set_ | apply keep_drewN | apply keep_drew | apply keep_alloc) | exact HK.out)) (KeepBut.of_grown hg g) (Kd.R_base2 HL127_0.out));have n3_:=Aside0.mk (Kd.H_grown (Kd.H_widen (by repeat (first | exact HH26.out | refine Kd.H_alloc ?_ _ | refine Kd.H_drewN ?_ _ | refine Kd.H_drew ?_))) hg (fun k_ e_=>.inl (UU26.out.1 k_ e_)));have n4_:=Aside0.mk (ho);clear HI0;clear HB;clear HK;clear HH26;clear HO_3;clear UU26;clear HL127_0;have HI0:=n0_;have HB:=n1_;have HK:=n2_;have HH26:=n3_;have HO130:=n4_;clear n0_ n1_ n2_ n3_ n4_;clear ho hb hg hat;have p23:0 ≤ (0:Int):=(by omega);have q23:(0:Int) < ((x3_1.length:Int):Int):=of_decide_eq_true (by first | (with_reducible assumption) | assumption);replace p23:=eq_true p23;replace q23:=eq_true q23;obtain ⟨Ao30,co30,eo30⟩:=Kd.R_slice HO130.out;subst eo30;obtain ⟨_,_,hraw28,_,_,hcc28,_⟩:=Kd.H_raw HH26.out (by omega) (by have h_:(0:Int) < ((x3_1.length:Int):Int):=of_decide_eq_true (by first | (with_reducible assumption) | assumption);first | exact h_ | (have e_:=(HN26.out);omega) | simpa using h_);obtain ⟨_,hfr28⟩:=Kd.H_at HH26.out (by omega) (by have h_:(0:Int) < ((x3_1.length:Int):Int):=of_decide_eq_true (by first | (with_reducible assumption) | assumption);first | exact h_ | (have e_:=(HN26.out);omega) | simpa using h_);have hx28_0:=hcc28 0 _ rfl;have hf28_0:=hfr28 0;(try simp only [Nat.add_zero] at hx28_0 hf28_0);(try rw [show ((Kd.slice 3 (Kd.int .i64))).sz = 1 from rfl,Nat.mul_one] at hx28_0);(try rw [show ((Kd.slice 3 (Kd.int .i64))).sz = 1 from rfl,Nat.mul_one] at hf28_0);(try rw [show ((0:Int)).toNat = 0 from rfl] at hx28_0);(try simp only [Nat.reduceMul,Nat.zero_mul,Nat.zero_add,Nat.reduceAdd] at hx28_0);(try rw [show ((0:Int)).toNat = 0 from rfl] at hf28_0);(try simp only [Nat.reduceMul,Nat.zero_mul,Nat.zero_add,Nat.reduceAdd] at hf28_0);have HP28:=Kd.S_seg0 HH26.out (by omega) (by have h_:(0:Int) < ((x3_1.length:Int):Int):=of_decide_eq_true (by first | (with_reducible assumption) | assumption);first | exact h_ | (have e_:=(HN26.out);omega) | simpa using h_) (seg:=[.slice Ao30 y128.length co30]) (j:=0) (show 1 ≤ 1 from by decide) (x':=y128) (Kd.M_row HO130.out) (fun _ hk=>hk);(try simp only [show ((Kd.slice 3 (Kd.int .i64))).sz = 1 from rfl,Nat.mul_one,Nat.add_zero] at HP28);clear hcc28 hfr28) | ((with_reducible refine gate_store (t:=27) (p:=42) rfl ?_);refine store_event (t:=27) (p:=42) (v:=?vo_w29) (w1:=(w27.setCell ⟨go26,(0:Int).toNat,none⟩ (.slice Ao30 y128.length co30))) ?hg ?ho ?hn ?hr ?_;(case ho=>rfl);(case hg=>rfl);(case hn=>rfl);(case hr=>first | (go_simp;done) | (go_simp;rfl));intro w29 hw;have hg:w27.grownBy w29 (some go26):=(by rw [hw];exact HP28.2);have hp_:Kd.S (Kd.slice 3 (Kd.int .i64)) 27 w29 w.heap.size (fun _=>True) (.slice (some ⟨go26,0,none⟩) x3_1.length co25) y131:=(by rw [hw,Ny131.out];exact HP28.1);clear HP28;have n0_:=Aside0.mk (IsS86.grown (by repeat (first | (with_reducible first | exact HI0.out | apply IsS86.alloc | apply IsS86.drewN | apply IsS86.drew | apply IsS86.set_1) | exact HI0.out)) hg (IsS86.own_ne HI0.out hraw28 (by decide)));have n1_:=Aside0.mk ((by rw [hw];exact below_set HB.out (Nat.le_trans HL.out GB26.out):Below w0.heap.size w0 w29));have n2_:=Aside0.mk (KeepBut.trans (by repeat (first | (with_reducible first | exact HK.out | apply KeepBut.set_ | apply keep_drewN | apply keep_drew | apply keep_alloc) | exact HK.out)) (KeepBut.of_grown hg g) (Kd.R_base2 hraw28));have n3_:=Aside0.mk (hp_);clear HI0;clear HB;clear HK;clear HO130;clear HH26;have HI0:=n0_;have HB:=n1_;have HK:=n2_;have HO_3:=n3_;clear n0_ n1_ n2_ n3_;clear hg hw hp_ hraw28))
       go_ret
       exact ⟨_,by first | rfl | (simp [errW_none,errW_some] <;> rfl) | (simp [*,errW_none,errW_some] <;> rfl),by (with_reducible repeat (first | apply Kd.S_alloc | apply Kd.S_drewN | apply Kd.S_drew));exact HO_3.out,by repeat (first | (with_reducible first | exact HI0.out | apply IsS86.alloc | apply IsS86.drewN | apply IsS86.drew | apply IsS86.set_1) | exact HI0.out),by repeat (first | (with_reducible first | exact HB.out | apply below_alloc | apply pw_below_drewN | apply below_drew1 | refine below_set ?_ (IsS86.ge HI0.out)) | exact HB.out),by repeat (first | (with_reducible first | exact HK.out | apply KeepBut.set_ | apply keep_drewN | apply keep_drew | apply keep_alloc) | exact HK.out)⟩
      ·rw [if_neg c22] at H
       exact absurd H (by simp)
     ·rw [if_neg c21] at H
      exact absurd H (by simp)
    ·rw [if_neg c20] at H
     have c20b0:(t125 == 0) = false:=beq_eq_false_iff_ne.mpr c20
     have c20b1:(t125 != 0) = true:=bne_iff_ne.mpr c20
     by_cases c31:t125 = 1
     ·rw [if_pos c31] at H
      have c31b0:(t125 == 1) = true:=beq_iff_eq.mpr c31
      have c31b1:(t125 != 1) = false:=bne_eq_false_iff_eq.mpr c31
      clear c31
      have H':=Aside0.mk H
      clear H
      go_wp2_with (first | ((with_reducible refine gate_callee (f:=65) rfl ?_);refine goesL_ (some 33) rfl rfl Try.func65 (by kernel_rfl) rfl #[.pointer (some ⟨g,0,none⟩),.int .i64 30] rfl (by (try simp only [List.map_toArray,List.map_cons,List.map_nil]);first | done | rfl | (simp only [List.length_drop,List.length_take];rfl)) ?_;(with_reducible refine (spec_l6Rd_pick.calls k1 g s0_0 x1001_1 30 t125 t126 w0 _ ?side1 ?side2 A19.out).mono ?_);(case side1=>repeat (first | (with_reducible first | exact HI0.out | apply IsS86.alloc | apply IsS86.drewN | apply IsS86.drew | apply IsS86.set_1) | exact HI0.out));(case side2=>repeat (first | (with_reducible first | exact HB.out | apply below_alloc | apply pw_below_drewN | apply below_drew1 | refine below_set ?_ (IsS86.ge HI0.out)) | exact HB.out));rintro e w32 ⟨rfl,hi,hb,hk⟩;refine ⟨_,rfl,?_⟩;have n0_:=Aside0.mk (Kd.S_mono (Kd.S_keep (IsS86.apartS (show IsS86 w0 _ g s0_0 x1001_1 from by repeat (first | (with_reducible first | exact HI0.out | apply IsS86.alloc | apply IsS86.drewN | apply IsS86.drew | apply IsS86.set_1) | exact HI0.out)) (by (with_reducible repeat (first | apply Kd.S_alloc | apply Kd.S_drewN | apply Kd.S_drew));exact HO_3.out) (by decide)) hk (fun _ h=>h.2)) (fun _ h=>h.1));have n1_:=Aside0.mk (KeepBut.trans (by repeat (first | (with_reducible first | exact HK.out | apply KeepBut.set_ | apply keep_drewN | apply keep_drew | apply keep_alloc) | exact HK.out)) hk (.inl rfl));have n2_:=Aside0.mk (hb);have n3_:=Aside0.mk (hi);clear HO_3;clear HK;clear HB;clear HI0;have HO_3:=n0_;have HK:=n1_;have HB:=n2_;have HI0:=n3_;clear n0_ n1_ n2_ n3_;(try clear hb);(try clear hb2);(try clear hk);(try clear hi)))
      go_loopg [3] k1 (fun kq v3 w'=>∃ (x3_2:List (List Int)),Aside0 (spec_l92Threads.l2 kq x3_2 s0_0 t126 = some (r1,r2))∧Aside0 (kq ≤ k1)∧Aside0 (Kd.S (Kd.slice 3 (Kd.int .i64)) 27 w' w.heap.size (fun _=>True) v3 x3_2)∧Aside0 (IsS86 w0 w' g s0_0 t126)∧Aside0 (KeepBut w w' g none)∧Aside0 (Below w0.heap.size w0 w'))
      case atStart=>exact ⟨(x3_1),H',⟨Nat.le_refl _⟩,⟨by (with_reducible repeat (first | apply Kd.S_alloc | apply Kd.S_drewN | apply Kd.S_drew));exact HO_3.out⟩,⟨by repeat (first | (with_reducible first | exact HI0.out | apply IsS86.alloc | apply IsS86.drewN | apply IsS86.drew | apply IsS86.set_1) | exact HI0.out)⟩,⟨by repeat (first | (with_reducible first | exact HK.out | apply KeepBut.set_ | apply keep_drewN | apply keep_drew | apply keep_alloc) | exact HK.out)⟩,⟨by repeat (first | (with_reducible first | exact HB.out | apply below_alloc | apply pw_below_drewN | apply below_drew1 | refine below_set ?_ (IsS86.ge HI0.out)) | exact HB.out)⟩⟩
      case round =>
       clear H'
       try clear c1
       try clear p1
       try clear q1
       try clear hx1
       try clear qi1
       try clear c2
       try clear p2
       try clear q2
       try clear hx2
       try clear hf2
       try clear c3
       try clear c5
       try clear c6
       try clear c6b0
       try clear p6
       try clear c11
       try clear c11b0
       try clear c12
       try clear p12
       try clear q12
       try clear hx12
       try clear qi12
       try clear c13
       try clear c16
       try clear c20
       try clear c20b0
       try clear c20b1
       try clear c21
       try clear c21b0
       try clear c21b1
       try clear c22
       try clear p23
       try clear q23
       try clear c26
       try clear c28
       try clear hx28
       try clear hf28
       try clear c31
       try clear c31b0
       try clear c31b1
       try clear hx127_0
       try clear hx28_0
       try clear p127
       try clear p2
       try clear p23
       try clear p6
       try clear q127
       try clear q23
       obtain ⟨x3_2,HA,HK2,HO_3,HI0,HK,HB⟩:=hrel
       cases gk with
       | zero=>exact absurd HA.out (by simp [spec_l92Threads.l2])
       | succ k2 =>
        have H:=HA.out
        clear HA
        simp only [spec_l92Threads.l2] at H
        by_cases c33:(x3_2.length:Int) ≤ 4
        ·rw [if_pos c33] at H
         have c33b0:decide ((x3_2.length:Int) ≤ 4) = true:=decide_eq_true c33
         have c33b1:decide (x3_2.length ≤ 4) = true:=decide_eq_true (by omega)
         clear c33
         obtain ⟨y132,hy132⟩:∃ y_:List Int,y_ = (([]:List Int)):=⟨_,rfl⟩
         replace H:(if x3_2.length < 5864062014805 then (spec_l92Threads.l2 k2 (x3_2 ++ [y132]) s0_0 t126) else (none)) = some (r1,r2):=by first | (rw [hy132];with_reducible exact H) | (have H2_:=(Option.bind_some _ _).symm.trans H;rw [hy132];with_reducible exact H2_) | (have H2_:=(Option.bind_some _ _).symm.trans H;with_reducible exact H2_) | with_reducible exact H | (rw [hy132];exact H) | exact H
         have Ny132:=Aside0.mk hy132
         clear hy132
         by_cases c34:x3_2.length < 5864062014805
         ·rw [if_pos c34] at H
          have LMc34:=Aside0.mk c34
          clear c34
          obtain ⟨y135,hy135⟩:∃ y_:List (List Int),y_ = (x3_2 ++ [y132]):=⟨_,rfl⟩
          replace H:(spec_l92Threads.l2 k2 y135 s0_0 t126) = some (r1,r2):=by first | (rw [hy135];with_reducible exact H) | (have H2_:=(Option.bind_some _ _).symm.trans H;rw [hy135];with_reducible exact H2_) | (have H2_:=(Option.bind_some _ _).symm.trans H;with_reducible exact H2_) | with_reducible exact H | (rw [hy135];exact H) | exact H
          have Ny135:=Aside0.mk hy135
          clear hy135
          have H':=Aside0.mk H
          clear H
          obtain ⟨Ao35,co35,eo35⟩:=Kd.S_slice HO_3.out
          subst eo35
          go_wp2_with (first | ((with_reducible refine gate_dst (N:=49) rfl ?_);refine Kd.R_lit (Kd.int .i64) _ 3 ?hg (N:=49) ?hd (xs:=([]:List Int)) (inner:=[]) (ok:=fun _=>True) (okp:=fun _=>True) ?hr ?hp (fun _ hk=>hk) trivial (Below.refl _ _) (Nat.le_refl _) (by simp) ?_;(case hd=>rfl);(case hg=>rfl);(case hr=>first | (go_simp;done) | (go_simp;rfl));(case hp=>exact (Reps.none _ _));intro v133 w36 ho37 hb hg_ hnew_;clear hg_ hnew_;(first | rw [← Ny132.out] at ho37 | (simp only [Int.reduceToNat] at ho37;rw [← Ny132.out] at ho37));have n0_:=Aside0.mk (Kd.S_elder' (by (with_reducible repeat (first | apply Kd.S_alloc | apply Kd.S_drewN | apply Kd.S_drew));exact HO_3.out) (Kd.R_base ho37) hb);have n1_:=Aside0.mk (Kd.R_lower ho37 (keep_size (w:=w) (g:=g) (row:=none) (by repeat (first | (with_reducible first | exact HK.out | apply KeepBut.set_ | apply keep_drewN | apply keep_drew | apply keep_alloc) | exact HK.out))));have n2_:=Aside0.mk (IsS86.below (by repeat (first | (with_reducible first | exact HI0.out | apply IsS86.alloc | apply IsS86.drewN | apply IsS86.drew | apply IsS86.set_1) | exact HI0.out)) hb);have n3_:=Aside0.mk (KeepBut.trans (by repeat (first | (with_reducible first | exact HK.out | apply KeepBut.set_ | apply keep_drewN | apply keep_drew | apply keep_alloc) | exact HK.out)) (KeepBut.of_below hb g none) (.inl rfl));have n4_:=Aside0.mk (below_step (by repeat (first | (with_reducible first | exact HB.out | apply below_alloc | apply pw_below_drewN | apply below_drew1 | refine below_set ?_ (IsS86.ge HI0.out)) | exact HB.out)) hb);clear HO_3;clear HI0;clear HK;clear HB;have HO_3:=n0_;have HO134:=n1_;have HI0:=n2_;have HK:=n3_;have HB:=n4_;clear n0_ n1_ n2_ n3_ n4_;clear hb ho37;obtain ⟨Ao39,co39,eo39⟩:=Kd.R_slice HO134.out;subst eo39) | ((with_reducible refine gate_builtin (b:=.append) (xs:=#[.tmp 48,.tmp 50]) rfl ?_);at_builtin;refine Kd.S_append (Kd.slice 3 (Kd.int .i64)) w.heap.size rfl (.tmp 48) (.tmp 50) 23 27 (.slice none 0 0) 24 rfl Try.underlying23 info27 rfl (by decide) (by omega) (.slice Ao35 x3_2.length co35) x3_2 y132 [.slice Ao39 y132.length co39] (fun _=>True) (fun k_=>some k_ = (.slice Ao39 y132.length co39:Value).ownBlock) rfl rfl ?aP (fun k_ hk_=>((Kd.R_mono (ok':=fun k_=>((fun _=>True)) k_∧some k_ ≠ (.slice Ao35 x3_2.length co35:Value).ownBlock) (Kd.R_apart' (HO134.out) (Kd.S_typed HO_3.out) (by decide)) (fun k_ hk=>⟨trivial,hk.2⟩))).1 k_ hk_.symm) ?aF ?aO (Below.refl _ _) ?aS ?aL ?_;(case aP=>exact Kd.M_row (Kd.R_mono (Kd.R_tight rfl (Kd.R_mono (ok':=fun k_=>((fun _=>True)) k_∧some k_ ≠ (.slice Ao35 x3_2.length co35:Value).ownBlock) (Kd.R_apart' (HO134.out) (Kd.S_typed HO_3.out) (by decide)) (fun k_ hk=>⟨trivial,hk.2⟩))) (fun _ h_=>h_)));(case aF=>exact (fun _ _=>trivial));(case aO=>exact (by (with_reducible repeat (first | apply Kd.S_alloc | apply Kd.S_drewN | apply Kd.S_drew));exact Kd.S_mono HO_3.out (fun k_ hk=>⟨trivial,fun e_=>hk.2 e_⟩)));(case aS=>exact (keep_size (w:=w) (g:=g) (row:=none) (by repeat (first | (with_reducible first | exact HK.out | apply KeepBut.set_ | apply keep_drewN | apply keep_drew | apply keep_alloc) | exact HK.out))));(case aL=>have:=LMc34.out;omega);intro v136 w38 ho hb hg hat;rw [← Ny135.out] at ho;have n0_:=Aside0.mk (IsS86.grown (by repeat (first | (with_reducible first | exact HI0.out | apply IsS86.alloc | apply IsS86.drewN | apply IsS86.drew | apply IsS86.set_1) | exact HI0.out)) hg (IsS86.own_neS HI0.out HO_3.out (by decide)));have n1_:=Aside0.mk (below_weaken (by repeat (first | (with_reducible first | exact HB.out | apply below_alloc | apply pw_below_drewN | apply below_drew1 | refine below_set ?_ (IsS86.ge HI0.out)) | exact HB.out)) HL.out hb);have n2_:=Aside0.mk (KeepBut.trans (by repeat (first | (with_reducible first | exact HK.out | apply KeepBut.set_ | apply keep_drewN | apply keep_drew | apply keep_alloc) | exact HK.out)) (KeepBut.of_grown hg g) (Kd.S_base2 HO_3.out));have n3_:=Aside0.mk (ho);clear HI0;clear HB;clear HK;clear HO_3;clear HO134;have HI0:=n0_;have HB:=n1_;have HK:=n2_;have HO137:=n3_;clear n0_ n1_ n2_ n3_;clear ho hb hg hat))
          go_roundg k2
          case measure=>have:=HK1.out;have:=HK2.out;omega
          case rel=>exact ⟨(y135),H',⟨by have:=HK1.out;have:=HK2.out;omega⟩,⟨by (with_reducible repeat (first | apply Kd.S_alloc | apply Kd.S_drewN | apply Kd.S_drew));exact HO137.out⟩,⟨by repeat (first | (with_reducible first | exact HI0.out | apply IsS86.alloc | apply IsS86.drewN | apply IsS86.drew | apply IsS86.set_1) | exact HI0.out)⟩,⟨by repeat (first | (with_reducible first | exact HK.out | apply KeepBut.set_ | apply keep_drewN | apply keep_drew | apply keep_alloc) | exact HK.out)⟩,⟨by repeat (first | (with_reducible first | exact HB.out | apply below_alloc | apply pw_below_drewN | apply below_drew1 | refine below_set ?_ (IsS86.ge HI0.out)) | exact HB.out)⟩⟩
         ·rw [if_neg c34] at H
          exact absurd H (by simp)
        ·rw [if_neg c33] at H
         have c33b0:decide ((x3_2.length:Int) ≤ 4) = false:=decide_eq_false c33
         have c33b1:decide (x3_2.length ≤ 4) = false:=decide_eq_false (by omega)
         clear c33
         simp only [Option.some.injEq,Prod.mk.injEq] at H
         obtain ⟨rfl,rfl⟩:=H
         obtain ⟨Ao40,co40,eo40⟩:=Kd.S_slice HO_3.out
         subst eo40
         go_wp2
         go_ret
         exact ⟨_,by first | rfl | (simp [errW_none,errW_some] <;> rfl) | (simp [*,errW_none,errW_some] <;> rfl),by (with_reducible repeat (first | apply Kd.S_alloc | apply Kd.S_drewN | apply Kd.S_drew));exact HO_3.out,by repeat (first | (with_reducible first | exact HI0.out | apply IsS86.alloc | apply IsS86.drewN | apply IsS86.drew | apply IsS86.set_1) | exact HI0.out),by repeat (first | (with_reducible first | exact HB.out | apply below_alloc | apply pw_below_drewN | apply below_drew1 | refine below_set ?_ (IsS86.ge HI0.out)) | exact HB.out),by repeat (first | (with_reducible first | exact HK.out | apply KeepBut.set_ | apply keep_drewN | apply keep_drew | apply keep_alloc) | exact HK.out)⟩
     ·rw [if_neg c31] at H
      have c31b0:(t125 == 1) = false:=beq_eq_false_iff_ne.mpr c31
      have c31b1:(t125 != 1) = true:=bne_iff_ne.mpr c31
      simp only [Option.some.injEq,Prod.mk.injEq] at H
      obtain ⟨rfl,rfl⟩:=H
      go_wp2_with (first | ((with_reducible refine gate_callee (f:=65) rfl ?_);refine goesL_ (some 33) rfl rfl Try.func65 (by kernel_rfl) rfl #[.pointer (some ⟨g,0,none⟩),.int .i64 30] rfl (by (try simp only [List.map_toArray,List.map_cons,List.map_nil]);first | done | rfl | (simp only [List.length_drop,List.length_take];rfl)) ?_;(with_reducible refine (spec_l6Rd_pick.calls k1 g s0_0 x1001_1 30 t125 t126 w0 _ ?side1 ?side2 A19.out).mono ?_);(case side1=>repeat (first | (with_reducible first | exact HI0.out | apply IsS86.alloc | apply IsS86.drewN | apply IsS86.drew | apply IsS86.set_1) | exact HI0.out));(case side2=>repeat (first | (with_reducible first | exact HB.out | apply below_alloc | apply pw_below_drewN | apply below_drew1 | refine below_set ?_ (IsS86.ge HI0.out)) | exact HB.out));rintro e w41 ⟨rfl,hi,hb,hk⟩;refine ⟨_,rfl,?_⟩;have n0_:=Aside0.mk (Kd.S_mono (Kd.S_keep (IsS86.apartS (show IsS86 w0 _ g s0_0 x1001_1 from by repeat (first | (with_reducible first | exact HI0.out | apply IsS86.alloc | apply IsS86.drewN | apply IsS86.drew | apply IsS86.set_1) | exact HI0.out)) (by (with_reducible repeat (first | apply Kd.S_alloc | apply Kd.S_drewN | apply Kd.S_drew));exact HO_3.out) (by decide)) hk (fun _ h=>h.2)) (fun _ h=>h.1));have n1_:=Aside0.mk (KeepBut.trans (by repeat (first | (with_reducible first | exact HK.out | apply KeepBut.set_ | apply keep_drewN | apply keep_drew | apply keep_alloc) | exact HK.out)) hk (.inl rfl));have n2_:=Aside0.mk (hb);have n3_:=Aside0.mk (hi);clear HO_3;clear HK;clear HB;clear HI0;have HO_3:=n0_;have HK:=n1_;have HB:=n2_;have HI0:=n3_;clear n0_ n1_ n2_ n3_;(try clear hb);(try clear hb2);(try clear hk);(try clear hi)))
      go_ret
      exact ⟨_,by first | rfl | (simp [errW_none,errW_some] <;> rfl) | (simp [*,errW_none,errW_some] <;> rfl),by (with_reducible repeat (first | apply Kd.S_alloc | apply Kd.S_drewN | apply Kd.S_drew));exact HO_3.out,by repeat (first | (with_reducible first | exact HI0.out | apply IsS86.alloc | apply IsS86.drewN | apply IsS86.drew | apply IsS86.set_1) | exact HI0.out),by repeat (first | (with_reducible first | exact HB.out | apply below_alloc | apply pw_below_drewN | apply below_drew1 | refine below_set ?_ (IsS86.ge HI0.out)) | exact HB.out),by repeat (first | (with_reducible first | exact HK.out | apply KeepBut.set_ | apply keep_drewN | apply keep_drew | apply keep_alloc) | exact HK.out)⟩
mutual
def spec_l92History.j1:Nat → List (S32) → List Int → Int → Option ((List (S32)) × Int)
 | 0,_,_,_=>none
 | k + 1,x5,x1000,x1001=>(spec_l6Rd_pick.f k x1000 x1001 20).bind fun bt207=>(if bt207.1 = 0 then ((spec_l6Rd_pick.f k x1000 bt207.2 5).bind fun bt209=>((spec_l6Rd_pick.f k x1000 bt209.2 6).bind fun bt211=>(if x5.length < 8796093022208 then (some ((x5 ++ [(⟨wrap64 (bt209.1 - 1),wrap64 (bt211.1 - 2)⟩:S32)]),bt211.2)) else (none)))) else (some (x5,bt207.2)))
def spec_l92History.l0:Nat → List (List Int) → List (S32) → Int → List Int → Int → Option ((List (S32)) × Int)
 | 0,_,_,_,_,_=>none
 | k + 1,x1,x5,x6,x1000,x1001=>if x6 > 0 then ((spec_HistoryMay.f k x1 x5).bind fun t198=>(if (t198.length:Int) = 0 then (spec_l92History.j1 k x5 x1000 x1001) else ((spec_l6Rd_pick.f k x1000 x1001 (t198.length:Int)).bind fun bt201=>(if 0 ≤ bt201.1 then (if bt201.1 < (t198.length:Int) then (if x5.length < 8796093022208 then (spec_l92History.l0 k x1 (x5 ++ [(⟨(rd_T32 t198 bt201.1).f0,(rd_T32 t198 bt201.1).f1⟩:S32)]) (wrap64 (x6 - 1)) x1000 bt201.2) else (none)) else (none)) else (none))))) else (spec_l92History.j1 k x5 x1000 x1001)
end
def spec_l92History.f (k:Nat) (s0_0:List Int) (s0_1:Int) (l1:List (List Int)):Option ((List (S32)) × Int):=(spec_l6Rd_pick.f k s0_0 s0_1 14).bind fun bt196=>(spec_l92History.l0 k l1 (([]:List (S32))) bt196.1 s0_0 bt196.2)
theorem spec_l92History.mono_l:∀ k,(∀ y0 y1 y2,LeO (spec_l92History.j1 k y0 y1 y2) (spec_l92History.j1 (k + 1) y0 y1 y2))∧(∀ y0 y1 y2 y3 y4,LeO (spec_l92History.l0 k y0 y1 y2 y3 y4) (spec_l92History.l0 (k + 1) y0 y1 y2 y3 y4))
 | 0=>⟨fun _ _ _ r h=>by simp [spec_l92History.j1] at h,fun _ _ _ _ _ r h=>by simp [spec_l92History.l0] at h⟩
 | k + 1=>by
  obtain ⟨ih0,ih1⟩:=spec_l92History.mono_l k
  refine ⟨?_,?_⟩
  ·intro y0 y1 y2
   unfold spec_l92History.j1
   repeat' first
   | (with_reducible exact ih0 _ _ _)
   | (with_reducible exact ih1 _ _ _ _ _)
   | (with_reducible exact spec_HistoryMay.mono _ _ _)
   | (with_reducible exact spec_l6Rd_pick.mono _ _ _ _)
   | (with_reducible exact LeO.refl _)
   | (with_reducible exact LeO.none _)
   | (with_reducible refine LeO.ite ?_ ?_)
   | (with_reducible refine LeO.bind ?_ (fun _=>?_))
   | exact ih0 _ _ _
   | exact ih1 _ _ _ _ _
   | exact spec_HistoryMay.mono _ _ _
   | exact spec_l6Rd_pick.mono _ _ _ _
   | exact LeO.none _
   | refine LeO.ite ?_ ?_
   | refine LeO.bind ?_ (fun _=>?_)
  ·intro y0 y1 y2 y3 y4
   unfold spec_l92History.l0
   repeat' first
   | (with_reducible exact ih0 _ _ _)
   | (with_reducible exact ih1 _ _ _ _ _)
   | (with_reducible exact spec_HistoryMay.mono _ _ _)
   | (with_reducible exact spec_l6Rd_pick.mono _ _ _ _)
   | (with_reducible exact LeO.refl _)
   | (with_reducible exact LeO.none _)
   | (with_reducible refine LeO.ite ?_ ?_)
   | (with_reducible refine LeO.bind ?_ (fun _=>?_))
   | exact ih0 _ _ _
   | exact ih1 _ _ _ _ _
   | exact spec_HistoryMay.mono _ _ _
   | exact spec_l6Rd_pick.mono _ _ _ _
   | exact LeO.none _
   | refine LeO.ite ?_ ?_
   | refine LeO.bind ?_ (fun _=>?_)
theorem spec_l92History.mono:∀ a0 a1 a2 k,LeO (spec_l92History.f k a0 a1 a2) (spec_l92History.f (k + 1) a0 a1 a2):=by
 intro a0 a1 a2 k
 obtain ⟨ih0,ih1⟩:=spec_l92History.mono_l k
 unfold spec_l92History.f
 repeat' first
   | (with_reducible exact ih0 _ _ _)
   | (with_reducible exact ih1 _ _ _ _ _)
   | (with_reducible exact spec_HistoryMay.mono _ _ _)
   | (with_reducible exact spec_l6Rd_pick.mono _ _ _ _)
   | (with_reducible exact LeO.refl _)
   | (with_reducible exact LeO.none _)
   | (with_reducible refine LeO.ite ?_ ?_)
   | (with_reducible refine LeO.bind ?_ (fun _=>?_))
   | exact ih0 _ _ _
   | exact ih1 _ _ _ _ _
   | exact spec_HistoryMay.mono _ _ _
   | exact spec_l6Rd_pick.mono _ _ _ _
   | exact LeO.none _
   | refine LeO.ite ?_ ?_
   | refine LeO.bind ?_ (fun _=>?_)
set_option maxHeartbeats 8000000 in
set_option maxRecDepth 100000 in
theorem spec_l92History.calls (k:Nat) (g:Nat) (s0_0:List Int) (s0_1:Int) (A1:Option Addr) (c1:Nat) (l1:List (List Int)) (r1:List (S32)) (r2:Int) (w0 w:World) (hI:IsS86 w0 w g s0_0 s0_1) (hB:Below w0.heap.size w0 w) (hr1:∀ W_,KeepBut w W_ g none → Kd.C (Kd.slice 3 (Kd.int .i64)) W_ A1 l1.length l1) (hc1:l1.length ≤ c1) (h:spec_l92History.f k s0_0 s0_1 l1 = some (r1,r2)) :
  Calls Try.prog 55 #[.pointer (some ⟨g,0,none⟩),.slice A1 l1.length c1] w fun e w'=>∃ v0_:Value,e = .returned (v0_)∧Kd.R k32 32 w' w.heap.size (fun _=>True) v0_ r1∧IsS86 w0 w' g s0_0 r2∧Below w0.heap.size w0 w'∧KeepBut w w' g none:=by
 have hu32:=Try.underlying32
 have HR1:=Aside0.mk hr1
 have HC1:=Aside0.mk hc1
 clear hr1 hc1
 have HI0:=Aside0.mk hI
 have HK:=Aside0.mk (KeepBut.refl w g none)
 have HL:=Aside0.mk hB.size
 clear hI
 have HW0:=Aside0.mk hB.size
 have HB:=Aside0.mk hB
 clear hB
 have H:((spec_l6Rd_pick.f k s0_0 s0_1 14).bind fun bt196=>(spec_l92History.l0 k l1 (([]:List (S32))) bt196.1 s0_0 bt196.2)) = some (r1,r2):=h
 clear h
 obtain ⟨y193,hy193⟩:∃ y_:List (S32),y_ = (([]:List (S32))):=⟨_,rfl⟩
 replace H:((spec_l6Rd_pick.f k s0_0 s0_1 14).bind fun bt196=>(spec_l92History.l0 k l1 y193 bt196.1 s0_0 bt196.2)) = some (r1,r2):=by first | (rw [hy193];with_reducible exact H) | (have H2_:=(Option.bind_some _ _).symm.trans H;rw [hy193];with_reducible exact H2_) | (have H2_:=(Option.bind_some _ _).symm.trans H;with_reducible exact H2_) | with_reducible exact H | (rw [hy193];exact H) | exact H
 have Ny193:=Aside0.mk hy193
 clear hy193
 replace H:=Option.bind_eq_some_iff.mp H
 obtain ⟨⟨t196,t197⟩,A30,H⟩:=H
 replace H:(spec_l92History.l0 k l1 y193 t196 s0_0 t197) = some (r1,r2):=H
 have A3:=Aside0.mk A30
 clear A30
 have HC4:=Aside0.mk H
 clear H
 go_enter Try.func55,Try.ntmps55
 go_upto_block 0 with (first | ((with_reducible refine gate_dst (N:=8) rfl ?_);refine Kd.R_lit k32 _ 32 ?hg (N:=8) ?hd (xs:=([]:List (S32))) (inner:=[]) (ok:=fun _=>True) (okp:=fun _=>True) ?hr ?hp (fun _ hk=>hk) trivial (Below.refl _ _) (Nat.le_refl _) (by simp) ?_;(case hd=>rfl);(case hg=>rfl);(case hr=>first | (go_simp;done) | (go_simp;rfl));(case hp=>exact (Reps.none _ _));intro v194 w5 ho6 hb hg_ hnew_;clear hg_ hnew_;(first | rw [← Ny193.out] at ho6 | (simp only [Int.reduceToNat] at ho6;rw [← Ny193.out] at ho6));have n0_:=Aside0.mk (Kd.R_lower ho6 (keep_size (w:=w) (g:=g) (row:=none) (by repeat (first | (with_reducible first | exact HK.out | apply KeepBut.set_ | apply keep_drewN | apply keep_drew | apply keep_alloc) | exact HK.out))));have n1_:=Aside0.mk (IsS86.below (by repeat (first | (with_reducible first | exact HI0.out | apply IsS86.alloc | apply IsS86.drewN | apply IsS86.drew | apply IsS86.set_1) | exact HI0.out)) hb);have n2_:=Aside0.mk (KeepBut.trans (by repeat (first | (with_reducible first | exact HK.out | apply KeepBut.set_ | apply keep_drewN | apply keep_drew | apply keep_alloc) | exact HK.out)) (KeepBut.of_below hb g none) (.inl rfl));have n3_:=Aside0.mk (below_step (by repeat (first | (with_reducible first | exact HB.out | apply below_alloc | apply pw_below_drewN | apply below_drew1 | refine below_set ?_ (IsS86.ge HI0.out)) | exact HB.out)) hb);clear HI0;clear HK;clear HB;have HO195:=n0_;have HI0:=n1_;have HK:=n2_;have HB:=n3_;clear n0_ n1_ n2_ n3_;clear hb ho6) | ((with_reducible refine gate_callee (f:=65) rfl ?_);refine goesL_ (some 10) rfl rfl Try.func65 (by kernel_rfl) rfl #[.pointer (some ⟨g,0,none⟩),.int .i64 14] rfl (by (try simp only [List.map_toArray,List.map_cons,List.map_nil]);first | done | rfl | (simp only [List.length_drop,List.length_take];rfl)) ?_;(with_reducible refine (spec_l6Rd_pick.calls k g s0_0 s0_1 14 t196 t197 w0 _ ?side1 ?side2 A3.out).mono ?_);(case side1=>repeat (first | (with_reducible first | exact HI0.out | apply IsS86.alloc | apply IsS86.drewN | apply IsS86.drew | apply IsS86.set_1) | exact HI0.out));(case side2=>repeat (first | (with_reducible first | exact HB.out | apply below_alloc | apply pw_below_drewN | apply below_drew1 | refine below_set ?_ (IsS86.ge HI0.out)) | exact HB.out));rintro e w7 ⟨rfl,hi,hb,hk⟩;refine ⟨_,rfl,?_⟩;have n0_:=Aside0.mk (Kd.R_mono (Kd.R_keep (IsS86.apart (show IsS86 w0 _ g s0_0 s0_1 from by repeat (first | (with_reducible first | exact HI0.out | apply IsS86.alloc | apply IsS86.drewN | apply IsS86.drew | apply IsS86.set_1) | exact HI0.out)) (by (with_reducible repeat (first | apply Kd.R_alloc | apply Kd.R_drewN | apply Kd.R_drew));exact HO195.out) (by decide)) hk (fun _ h=>h.2)) (fun _ h=>h.1));have n1_:=Aside0.mk (KeepBut.trans (by repeat (first | (with_reducible first | exact HK.out | apply KeepBut.set_ | apply keep_drewN | apply keep_drew | apply keep_alloc) | exact HK.out)) hk (.inl rfl));have n2_:=Aside0.mk (hb);have n3_:=Aside0.mk (hi);clear HO195;clear HK;clear HB;clear HI0;have HO195:=n0_;have HK:=n1_;have HB:=n2_;have HI0:=n3_;clear n0_ n1_ n2_ n3_;(try clear hb);(try clear hb2);(try clear hk);(try clear hi)))
 (try simp only [Act.put,List.setIfInBounds_toArray,List.set_cons_zero,List.set_cons_succ])
 go_cut [5] (fun v5 wc=>∃ (kq:Nat) (x5_3:List (S32)) (x1001_3:Int),Aside0 (spec_l92History.j1 kq x5_3 s0_0 x1001_3 = some (r1,r2))∧Aside0 (kq ≤ k)∧Aside0 (Kd.R k32 32 wc w.heap.size (fun _=>True) v5 x5_3)∧Aside0 (IsS86 w0 wc g s0_0 x1001_3)∧Aside0 (KeepBut w wc g none)∧Aside0 (Below w0.heap.size w0 wc))
 case first =>
  have H:=HC4.out
  clear HC4
  have H':=Aside0.mk H
  clear H
  go_wp2
  go_loopg [5,6] k (fun kq v5 v6 w'=>∃ (x5_1:List (S32)) (x6_1:Int) (x1001_1:Int),v6 = .int .i64 x6_1∧Aside0 (spec_l92History.l0 kq l1 x5_1 x6_1 s0_0 x1001_1 = some (r1,r2))∧Aside0 (kq ≤ k)∧Aside0 (Kd.R k32 32 w' w.heap.size (fun _=>True) v5 x5_1)∧Aside0 (IsS86 w0 w' g s0_0 x1001_1)∧Aside0 (KeepBut w w' g none)∧Aside0 (Below w0.heap.size w0 w'))
  case atStart=>exact ⟨(y193),(t196),(t197),(by first | rfl | (simp;done) | (simp [*];done)),H',⟨Nat.le_refl _⟩,⟨by (with_reducible repeat (first | apply Kd.R_alloc | apply Kd.R_drewN | apply Kd.R_drew));exact HO195.out⟩,⟨by repeat (first | (with_reducible first | exact HI0.out | apply IsS86.alloc | apply IsS86.drewN | apply IsS86.drew | apply IsS86.set_1) | exact HI0.out)⟩,⟨by repeat (first | (with_reducible first | exact HK.out | apply KeepBut.set_ | apply keep_drewN | apply keep_drew | apply keep_alloc) | exact HK.out)⟩,⟨by repeat (first | (with_reducible first | exact HB.out | apply below_alloc | apply pw_below_drewN | apply below_drew1 | refine below_set ?_ (IsS86.ge HI0.out)) | exact HB.out)⟩⟩
  case round =>
   clear H'
   try clear c1
   try clear p2
   try clear c5
   try clear c6
   obtain ⟨x5_1,x6_1,x1001_1,rfl,HA,HK1,HO_5,HI0,HK,HB⟩:=hrel
   cases gk with
   | zero=>exact absurd HA.out (by simp [spec_l92History.l0])
   | succ k1 =>
    have H:=HA.out
    clear HA
    simp only [spec_l92History.l0] at H
    by_cases c8:x6_1 > 0
    ·rw [if_pos c8] at H
     have c8b0:decide (0 < x6_1) = true:=decide_eq_true c8
     clear c8
     (first | rw [c8b0] | (simp only [i64_w,i32_w];rw [c8b0]) | skip)
     replace H:=Option.bind_eq_some_iff.mp H
     obtain ⟨t198,A90,H⟩:=H
     replace H:(if (t198.length:Int) = 0 then (spec_l92History.j1 k1 x5_1 s0_0 x1001_1) else ((spec_l6Rd_pick.f k1 s0_0 x1001_1 (t198.length:Int)).bind fun bt201=>(if 0 ≤ bt201.1 then (if bt201.1 < (t198.length:Int) then (if x5_1.length < 8796093022208 then (spec_l92History.l0 k1 l1 (x5_1 ++ [(⟨(rd_T32 t198 bt201.1).f0,(rd_T32 t198 bt201.1).f1⟩:S32)]) (wrap64 (x6_1 - 1)) s0_0 bt201.2) else (none)) else (none)) else (none)))) = some (r1,r2):=H
     have A9:=Aside0.mk A90
     clear A90
     by_cases c10:(t198.length:Int) = 0
     ·rw [if_pos c10] at H
      have c10b0:((t198.length:Int) == 0) = true:=beq_iff_eq.mpr c10
      have c10b1:((t198.length:Int) != 0) = false:=bne_eq_false_iff_eq.mpr c10
      clear c10
      have H':=Aside0.mk H
      clear H
      obtain ⟨Ao11,co11,eo11⟩:=Kd.R_slice HO_5.out
      subst eo11
      go_wp2_with (first | ((with_reducible refine gate_callee (f:=33) rfl ?_);refine goesL_ (some 17) rfl rfl Try.func33 (by kernel_rfl) rfl #[.slice A1 l1.length c1,.slice Ao11 x5_1.length co11] rfl (by (try simp only [List.map_toArray,List.map_cons,List.map_nil]);first | done | rfl | (simp only [List.length_drop,List.length_take];rfl)) ?_;(with_reducible refine (spec_HistoryMay.calls k1 _ _ l1 _ _ x5_1 t198 _ ?side1 ?side2 ?side3 ?side4 A9.out).mono ?_);(case side1=>exact Kd.C_foot_now HR1.out (by repeat (first | (with_reducible first | exact HK.out | apply KeepBut.set_ | apply keep_drewN | apply keep_drew | apply keep_alloc) | exact HK.out)));(case side2=>exact HC1.out);(case side3=>repeat (first | exact (Kd.R_reads' HO_5.out).2.2 | (with_reducible refine Kd.C_alloc ?_ _) | (with_reducible refine Kd.C_drewN ?_ _) | (with_reducible refine Kd.C_drew ?_)));(case side4=>exact (Kd.R_reads' HO_5.out).2.1);rintro e w12 ⟨v199,rfl,ho0,hb⟩;refine ⟨_,rfl,?_⟩;have n0_:=Aside0.mk (Kd.R_elder' (by (with_reducible repeat (first | apply Kd.R_alloc | apply Kd.R_drewN | apply Kd.R_drew));exact HO_5.out) (Kd.R_base ho0) hb);have n1_:=Aside0.mk (Kd.R_lower (Kd.R_new' ho0 (Kd.R_lt (by (with_reducible repeat (first | apply Kd.R_alloc | apply Kd.R_drewN | apply Kd.R_drew));exact HO_5.out))) (keep_size (w:=w) (g:=g) (row:=none) (by repeat (first | (with_reducible first | exact HK.out | apply KeepBut.set_ | apply keep_drewN | apply keep_drew | apply keep_alloc) | exact HK.out))));have n2_:=Aside0.mk (IsS86.below (by repeat (first | (with_reducible first | exact HI0.out | apply IsS86.alloc | apply IsS86.drewN | apply IsS86.drew | apply IsS86.set_1) | exact HI0.out)) hb);have n3_:=Aside0.mk (KeepBut.trans (by repeat (first | (with_reducible first | exact HK.out | apply KeepBut.set_ | apply keep_drewN | apply keep_drew | apply keep_alloc) | exact HK.out)) (KeepBut.of_below hb g none) (.inl rfl));have n4_:=Aside0.mk (below_step (by repeat (first | (with_reducible first | exact HB.out | apply below_alloc | apply pw_below_drewN | apply below_drew1 | refine below_set ?_ (IsS86.ge HI0.out)) | exact HB.out)) hb);clear HO_5;clear HI0;clear HK;clear HB;have HO_5:=n0_;have HO200:=n1_;have HI0:=n2_;have HK:=n3_;have HB:=n4_;clear n0_ n1_ n2_ n3_ n4_;(try clear hb);(try clear hb2);(try clear hk);(try clear hi);(try clear ho0);obtain ⟨Ao13,co13,eo13⟩:=Kd.R_slice HO200.out;subst eo13))
      go_meet
      case rel=>exact ⟨_,(x5_1),(x1001_1),H',⟨by have:=HK1.out;first | omega | exact Nat.le_refl _⟩,⟨by (with_reducible repeat (first | apply Kd.R_alloc | apply Kd.R_drewN | apply Kd.R_drew));exact Kd.R_mono HO_5.out (fun _ hk=>trivial)⟩,⟨by repeat (first | (with_reducible first | exact HI0.out | apply IsS86.alloc | apply IsS86.drewN | apply IsS86.drew | apply IsS86.set_1) | exact HI0.out)⟩,⟨by repeat (first | (with_reducible first | exact HK.out | apply KeepBut.set_ | apply keep_drewN | apply keep_drew | apply keep_alloc) | exact HK.out)⟩,⟨by repeat (first | (with_reducible first | exact HB.out | apply below_alloc | apply pw_below_drewN | apply below_drew1 | refine below_set ?_ (IsS86.ge HI0.out)) | exact HB.out)⟩⟩
     ·rw [if_neg c10] at H
      have c10b0:((t198.length:Int) == 0) = false:=beq_eq_false_iff_ne.mpr c10
      have c10b1:((t198.length:Int) != 0) = true:=bne_iff_ne.mpr c10
      have c10b2:¬ (t198 = []):=fun h_=>c10 (by rw [h_];rfl)
      replace H:=Option.bind_eq_some_iff.mp H
      obtain ⟨⟨t201,t202⟩,A140,H⟩:=H
      replace H:(if 0 ≤ t201 then (if t201 < (t198.length:Int) then (if x5_1.length < 8796093022208 then (spec_l92History.l0 k1 l1 (x5_1 ++ [(⟨(rd_T32 t198 t201).f0,(rd_T32 t198 t201).f1⟩:S32)]) (wrap64 (x6_1 - 1)) s0_0 t202) else (none)) else (none)) else (none)) = some (r1,r2):=H
      have A14:=Aside0.mk A140
      clear A140
      by_cases c15:0 ≤ t201
      ·rw [if_pos c15] at H
       have c15b0:decide (0 ≤ t201) = true:=decide_eq_true c15
       clear c15
       by_cases c16:t201 < (t198.length:Int)
       ·rw [if_pos c16] at H
        have c16b0:decide (t201 < (t198.length:Int)) = true:=decide_eq_true c16
        clear c16
        by_cases c17:x5_1.length < 8796093022208
        ·rw [if_pos c17] at H
         have LMc17:=Aside0.mk c17
         clear c17
         obtain ⟨y204,hy204⟩:∃ y_:List (S32),y_ = (x5_1 ++ [(⟨(rd_T32 t198 t201).f0,(rd_T32 t198 t201).f1⟩:S32)]):=⟨_,rfl⟩
         replace H:(spec_l92History.l0 k1 l1 y204 (wrap64 (x6_1 - 1)) s0_0 t202) = some (r1,r2):=by first | (rw [hy204];with_reducible exact H) | (have H2_:=(Option.bind_some _ _).symm.trans H;rw [hy204];with_reducible exact H2_) | (have H2_:=(Option.bind_some _ _).symm.trans H;with_reducible exact H2_) | with_reducible exact H | (rw [hy204];exact H) | exact H
         have Ny204:=Aside0.mk hy204
         clear hy204
         have H':=Aside0.mk H
         clear H
         obtain ⟨Ao18,co18,eo18⟩:=Kd.R_slice HO_5.out
         subst eo18
         go_wp2_with (first | ((with_reducible refine gate_callee (f:=33) rfl ?_);refine goesL_ (some 17) rfl rfl Try.func33 (by kernel_rfl) rfl #[.slice A1 l1.length c1,.slice Ao18 x5_1.length co18] rfl (by (try simp only [List.map_toArray,List.map_cons,List.map_nil]);first | done | rfl | (simp only [List.length_drop,List.length_take];rfl)) ?_;(with_reducible refine (spec_HistoryMay.calls k1 _ _ l1 _ _ x5_1 t198 _ ?side1 ?side2 ?side3 ?side4 A9.out).mono ?_);(case side1=>exact Kd.C_foot_now HR1.out (by repeat (first | (with_reducible first | exact HK.out | apply KeepBut.set_ | apply keep_drewN | apply keep_drew | apply keep_alloc) | exact HK.out)));(case side2=>exact HC1.out);(case side3=>repeat (first | exact (Kd.R_reads' HO_5.out).2.2 | (with_reducible refine Kd.C_alloc ?_ _) | (with_reducible refine Kd.C_drewN ?_ _) | (with_reducible refine Kd.C_drew ?_)));(case side4=>exact (Kd.R_reads' HO_5.out).2.1);rintro e w19 ⟨v199,rfl,ho0,hb⟩;refine ⟨_,rfl,?_⟩;have n0_:=Aside0.mk (Kd.R_elder' (by (with_reducible repeat (first | apply Kd.R_alloc | apply Kd.R_drewN | apply Kd.R_drew));exact HO_5.out) (Kd.R_base ho0) hb);have n1_:=Aside0.mk (Kd.R_lower (Kd.R_new' ho0 (Kd.R_lt (by (with_reducible repeat (first | apply Kd.R_alloc | apply Kd.R_drewN | apply Kd.R_drew));exact HO_5.out))) (keep_size (w:=w) (g:=g) (row:=none) (by repeat (first | (with_reducible first | exact HK.out | apply KeepBut.set_ | apply keep_drewN | apply keep_drew | apply keep_alloc) | exact HK.out))));have n2_:=Aside0.mk (IsS86.below (by repeat (first | (with_reducible first | exact HI0.out | apply IsS86.alloc | apply IsS86.drewN | apply IsS86.drew | apply IsS86.set_1) | exact HI0.out)) hb);have n3_:=Aside0.mk (KeepBut.trans (by repeat (first | (with_reducible first | exact HK.out | apply KeepBut.set_ | apply keep_drewN | apply keep_drew | apply keep_alloc) | exact HK.out)) (KeepBut.of_below hb g none) (.inl rfl));have n4_:=Aside0.mk (below_step (by repeat (first | (with_reducible first | exact HB.out | apply below_alloc | apply pw_below_drewN | apply below_drew1 | refine below_set ?_ (IsS86.ge HI0.out)) | exact HB.out)) hb);clear HO_5;clear HI0;clear HK;clear HB;have HO_5:=n0_;have HO200:=n1_;have HI0:=n2_;have HK:=n3_;have HB:=n4_;clear n0_ n1_ n2_ n3_ n4_;(try clear hb);(try clear hb2);(try clear hk);(try clear hi);(try clear ho0);obtain ⟨Ao20,co20,eo20⟩:=Kd.R_slice HO200.out;subst eo20) | ((with_reducible refine gate_callee (f:=65) rfl ?_);refine goesL_ (some 26) rfl rfl Try.func65 (by kernel_rfl) rfl #[.pointer (some ⟨g,0,none⟩),.int .i64 (t198.length:Int)] rfl (by (try simp only [List.map_toArray,List.map_cons,List.map_nil]);first | done | rfl | (simp only [List.length_drop,List.length_take];rfl)) ?_;(with_reducible refine (spec_l6Rd_pick.calls k1 g s0_0 x1001_1 (t198.length:Int) t201 t202 w0 _ ?side1 ?side2 A14.out).mono ?_);(case side1=>repeat (first | (with_reducible first | exact HI0.out | apply IsS86.alloc | apply IsS86.drewN | apply IsS86.drew | apply IsS86.set_1) | exact HI0.out));(case side2=>repeat (first | (with_reducible first | exact HB.out | apply below_alloc | apply pw_below_drewN | apply below_drew1 | refine below_set ?_ (IsS86.ge HI0.out)) | exact HB.out));rintro e w21 ⟨rfl,hi,hb,hk⟩;refine ⟨_,rfl,?_⟩;have n0_:=Aside0.mk (Kd.R_mono (Kd.R_keep (IsS86.apart (show IsS86 w0 _ g s0_0 x1001_1 from by repeat (first | (with_reducible first | exact HI0.out | apply IsS86.alloc | apply IsS86.drewN | apply IsS86.drew | apply IsS86.set_1) | exact HI0.out)) (by (with_reducible repeat (first | apply Kd.R_alloc | apply Kd.R_drewN | apply Kd.R_drew));exact HO_5.out) (by decide)) hk (fun _ h=>h.2)) (fun _ h=>h.1));have n1_:=Aside0.mk (Kd.R_mono (Kd.R_keep (IsS86.apart (show IsS86 w0 _ g s0_0 x1001_1 from by repeat (first | (with_reducible first | exact HI0.out | apply IsS86.alloc | apply IsS86.drewN | apply IsS86.drew | apply IsS86.set_1) | exact HI0.out)) (by (with_reducible repeat (first | apply Kd.R_alloc | apply Kd.R_drewN | apply Kd.R_drew));exact HO200.out) (by decide)) hk (fun _ h=>h.2)) (fun _ h=>h.1));have n2_:=Aside0.mk (KeepBut.trans (by repeat (first | (with_reducible first | exact HK.out | apply KeepBut.set_ | apply keep_drewN | apply keep_drew | apply keep_alloc) | exact HK.out)) hk (.inl rfl));have n3_:=Aside0.mk (hb);have n4_:=Aside0.mk (hi);clear HO_5;clear HO200;clear HK;clear HB;clear HI0;have HO_5:=n0_;have HO200:=n1_;have HK:=n2_;have HB:=n3_;have HI0:=n4_;clear n0_ n1_ n2_ n3_ n4_;(try clear hb);(try clear hb2);(try clear hk);(try clear hi);have p203:0 ≤ (t201:Int):=of_decide_eq_true (by first | (with_reducible assumption) | assumption);have q203:t201 < (t198.length:Int):=of_decide_eq_true (by first | (with_reducible assumption) | assumption);obtain ⟨ad203,e203,hx203_0,hx203_1⟩:=at_T32 (Kd.R_reads' HO200.out).2.2 t201 p203 q203;cases e203;replace p203:=eq_true p203;replace q203:=eq_true q203) | ((with_reducible refine gate_builtin (b:=.append) (xs:=#[.tmp 21,.tmp 29]) rfl ?_);at_builtin;refine Kd.R_append k32 w.heap.size rfl (.tmp 21) (.tmp 29) 24 32 (.agg #[(.int .i64 0),(.int .i64 0)]) 16 rfl Try.underlying24 info32 rfl (by decide) (by omega) (.slice Ao18 x5_1.length co18) x5_1 (⟨(rd_T32 t198 t201).f0,(rd_T32 t198 t201).f1⟩:S32) [.int .i64 ((rd_T32 t198 t201).f0),.int .i64 ((rd_T32 t198 t201).f1)] (fun k_=>some k_ ≠ (.slice (some ad203) t198.length co20:Value).ownBlock) (fun _=>False) rfl rfl ?aP (fun _ hk=>hk.elim) ?aF ?aO (Below.refl _ _) ?aS ?aL ?_;(case aP=>exact k32_mkM _ _ _ (⟨(rd_T32 t198 t201).f0,(rd_T32 t198 t201).f1⟩:S32));(case aF=>exact (fun k_ hk=>Kd.fresh' (Kd.R_lt (by (with_reducible repeat (first | apply Kd.R_alloc | apply Kd.R_drewN | apply Kd.R_drew));exact HO200.out)) k_ hk));(case aO=>exact (by (with_reducible repeat (first | apply Kd.R_alloc | apply Kd.R_drewN | apply Kd.R_drew));exact Kd.R_mono HO_5.out (fun _ hk=>hk.2)));(case aS=>exact (keep_size (w:=w) (g:=g) (row:=none) (by repeat (first | (with_reducible first | exact HK.out | apply KeepBut.set_ | apply keep_drewN | apply keep_drew | apply keep_alloc) | exact HK.out))));(case aL=>have:=LMc17.out;omega);intro v205 w22 ho hb hg hat;rw [← Ny204.out] at ho;have n0_:=Aside0.mk (IsS86.grown (by repeat (first | (with_reducible first | exact HI0.out | apply IsS86.alloc | apply IsS86.drewN | apply IsS86.drew | apply IsS86.set_1) | exact HI0.out)) hg (IsS86.own_ne HI0.out HO_5.out (by decide)));have n1_:=Aside0.mk (Kd.R_after (ok:=(fun _=>True)) (by (with_reducible repeat (first | apply Kd.R_alloc | apply Kd.R_drewN | apply Kd.R_drew));exact HO200.out) hg hat);have n2_:=Aside0.mk (below_weaken (by repeat (first | (with_reducible first | exact HB.out | apply below_alloc | apply pw_below_drewN | apply below_drew1 | refine below_set ?_ (IsS86.ge HI0.out)) | exact HB.out)) HL.out hb);have n3_:=Aside0.mk (KeepBut.trans (by repeat (first | (with_reducible first | exact HK.out | apply KeepBut.set_ | apply keep_drewN | apply keep_drew | apply keep_alloc) | exact HK.out)) (KeepBut.of_grown hg g) (Kd.R_base2 HO_5.out));have n4_:=Aside0.mk (ho);clear HI0;clear HO200;clear HB;clear HK;clear HO_5;have HI0:=n0_;have HO200:=n1_;have HB:=n2_;have HK:=n3_;have HO206:=n4_;clear n0_ n1_ n2_ n3_ n4_;clear ho hb hg hat))
         go_roundg k1
         case measure=>have:=HK1.out;omega
         case rel=>exact ⟨(y204),(wrap64 (x6_1 - 1)),(t202),(by first | rfl | (simp;done) | (simp [*];done)),H',⟨by have:=HK1.out;omega⟩,⟨by (with_reducible repeat (first | apply Kd.R_alloc | apply Kd.R_drewN | apply Kd.R_drew));exact Kd.R_mono HO206.out (fun _ hk=>trivial)⟩,⟨by repeat (first | (with_reducible first | exact HI0.out | apply IsS86.alloc | apply IsS86.drewN | apply IsS86.drew | apply IsS86.set_1) | exact HI0.out)⟩,⟨by repeat (first | (with_reducible first | exact HK.out | apply KeepBut.set_ | apply keep_drewN | apply keep_drew | apply keep_alloc) | exact HK.out)⟩,⟨by repeat (first | (with_reducible first | exact HB.out | apply below_alloc | apply pw_below_drewN | apply below_drew1 | refine below_set ?_ (IsS86.ge HI0.out)) | exact HB.out)⟩⟩
        ·rw [if_neg c17] at H
         exact absurd H (by simp)
       ·rw [if_neg c16] at H
        exact absurd H (by simp)
      ·rw [if_neg c15] at H
       exact absurd H (by simp)
    ·rw [if_neg c8] at H
     have c8b0:decide (0 < x6_1) = false:=decide_eq_false c8
     clear c8
     (first | rw [c8b0] | (simp only [i64_w,i32_w];rw [c8b0]) | skip)
     have H':=Aside0.mk H
     clear H
     go_wp2
     go_meet
     case rel=>exact ⟨_,(x5_1),(x1001_1),H',⟨by have:=HK1.out;first | omega | exact Nat.le_refl _⟩,⟨by (with_reducible repeat (first | apply Kd.R_alloc | apply Kd.R_drewN | apply Kd.R_drew));exact HO_5.out⟩,⟨by repeat (first | (with_reducible first | exact HI0.out | apply IsS86.alloc | apply IsS86.drewN | apply IsS86.drew | apply IsS86.set_1) | exact HI0.out)⟩,⟨by repeat (first | (with_reducible first | exact HK.out | apply KeepBut.set_ | apply keep_drewN | apply keep_drew | apply keep_alloc) | exact HK.out)⟩,⟨by repeat (first | (with_reducible first | exact HB.out | apply below_alloc | apply pw_below_drewN | apply below_drew1 | refine below_set ?_ (IsS86.ge HI0.out)) | exact HB.out)⟩⟩
 case rest =>
  clear HC4
  try clear c1
  try clear p2
  try clear q2
  try clear hx2
  try clear c3
  try clear c5
  try clear c6
  try clear p6
  try clear c8
  try clear c8b0
  try clear c10
  try clear c10b0
  try clear c10b1
  try clear c10b2
  try clear c15
  try clear c15b0
  try clear c16
  try clear c16b0
  try clear c17
  try clear p20
  try clear q20
  try clear hx20
  try clear hx203_0
  try clear hx203_1
  try clear p2
  try clear p203
  try clear q203
  obtain ⟨kq,x5_3,x1001_3,HA,HJ3,HO_5,HI0,HK,HB⟩:=hcut
  cases kq with
  | zero=>exact absurd HA.out (by simp [spec_l92History.j1])
  | succ kj3 =>
   have H:=HA.out
   clear HA
   simp only [spec_l92History.j1] at H
   replace H:=Option.bind_eq_some_iff.mp H
   obtain ⟨⟨t207,t208⟩,A230,H⟩:=H
   replace H:(if t207 = 0 then ((spec_l6Rd_pick.f kj3 s0_0 t208 5).bind fun bt209=>((spec_l6Rd_pick.f kj3 s0_0 bt209.2 6).bind fun bt211=>(if x5_3.length < 8796093022208 then (some ((x5_3 ++ [(⟨wrap64 (bt209.1 - 1),wrap64 (bt211.1 - 2)⟩:S32)]),bt211.2)) else (none)))) else (some (x5_3,t208))) = some (r1,r2):=H
   have A23:=Aside0.mk A230
   clear A230
   by_cases c24:t207 = 0
   ·rw [if_pos c24] at H
    have c24b0:(t207 == 0) = true:=beq_iff_eq.mpr c24
    have c24b1:(t207 != 0) = false:=bne_eq_false_iff_eq.mpr c24
    clear c24
    replace H:=Option.bind_eq_some_iff.mp H
    obtain ⟨⟨t209,t210⟩,A250,H⟩:=H
    replace H:((spec_l6Rd_pick.f kj3 s0_0 t210 6).bind fun bt211=>(if x5_3.length < 8796093022208 then (some ((x5_3 ++ [(⟨wrap64 (t209 - 1),wrap64 (bt211.1 - 2)⟩:S32)]),bt211.2)) else (none))) = some (r1,r2):=H
    have A25:=Aside0.mk A250
    clear A250
    replace H:=Option.bind_eq_some_iff.mp H
    obtain ⟨⟨t211,t212⟩,A260,H⟩:=H
    replace H:(if x5_3.length < 8796093022208 then (some ((x5_3 ++ [(⟨wrap64 (t209 - 1),wrap64 (t211 - 2)⟩:S32)]),t212)) else (none)) = some (r1,r2):=H
    have A26:=Aside0.mk A260
    clear A260
    by_cases c27:x5_3.length < 8796093022208
    ·rw [if_pos c27] at H
     have LMc27:=Aside0.mk c27
     clear c27
     obtain ⟨y213,hy213⟩:∃ y_:List (S32),y_ = (x5_3 ++ [(⟨wrap64 (t209 - 1),wrap64 (t211 - 2)⟩:S32)]):=⟨_,rfl⟩
     replace H:(some (y213,t212)) = some (r1,r2):=by first | (rw [hy213];with_reducible exact H) | (have H2_:=(Option.bind_some _ _).symm.trans H;rw [hy213];with_reducible exact H2_) | (have H2_:=(Option.bind_some _ _).symm.trans H;with_reducible exact H2_) | with_reducible exact H | (rw [hy213];exact H) | exact H
     have Ny213:=Aside0.mk hy213
     clear hy213
     simp only [Option.some.injEq,Prod.mk.injEq] at H
     obtain ⟨rfl,rfl⟩:=H
     go_wp2_with (first | ((with_reducible refine gate_callee (f:=65) rfl ?_);refine goesL_ (some 32) rfl rfl Try.func65 (by kernel_rfl) rfl #[.pointer (some ⟨g,0,none⟩),.int .i64 20] rfl (by (try simp only [List.map_toArray,List.map_cons,List.map_nil]);first | done | rfl | (simp only [List.length_drop,List.length_take];rfl)) ?_;(with_reducible refine (spec_l6Rd_pick.calls kj3 g s0_0 x1001_3 20 t207 t208 w0 _ ?side1 ?side2 A23.out).mono ?_);(case side1=>repeat (first | (with_reducible first | exact HI0.out | apply IsS86.alloc | apply IsS86.drewN | apply IsS86.drew | apply IsS86.set_1) | exact HI0.out));(case side2=>repeat (first | (with_reducible first | exact HB.out | apply below_alloc | apply pw_below_drewN | apply below_drew1 | refine below_set ?_ (IsS86.ge HI0.out)) | exact HB.out));rintro e w28 ⟨rfl,hi,hb,hk⟩;refine ⟨_,rfl,?_⟩;have n0_:=Aside0.mk (Kd.R_mono (Kd.R_keep (IsS86.apart (show IsS86 w0 _ g s0_0 x1001_3 from by repeat (first | (with_reducible first | exact HI0.out | apply IsS86.alloc | apply IsS86.drewN | apply IsS86.drew | apply IsS86.set_1) | exact HI0.out)) (by (with_reducible repeat (first | apply Kd.R_alloc | apply Kd.R_drewN | apply Kd.R_drew));exact HO_5.out) (by decide)) hk (fun _ h=>h.2)) (fun _ h=>h.1));have n1_:=Aside0.mk (KeepBut.trans (by repeat (first | (with_reducible first | exact HK.out | apply KeepBut.set_ | apply keep_drewN | apply keep_drew | apply keep_alloc) | exact HK.out)) hk (.inl rfl));have n2_:=Aside0.mk (hb);have n3_:=Aside0.mk (hi);clear HO_5;clear HK;clear HB;clear HI0;have HO_5:=n0_;have HK:=n1_;have HB:=n2_;have HI0:=n3_;clear n0_ n1_ n2_ n3_;(try clear hb);(try clear hb2);(try clear hk);(try clear hi)) | ((with_reducible refine gate_callee (f:=65) rfl ?_);refine goesL_ (some 36) rfl rfl Try.func65 (by kernel_rfl) rfl #[.pointer (some ⟨g,0,none⟩),.int .i64 5] rfl (by (try simp only [List.map_toArray,List.map_cons,List.map_nil]);first | done | rfl | (simp only [List.length_drop,List.length_take];rfl)) ?_;(with_reducible refine (spec_l6Rd_pick.calls kj3 g s0_0 t208 5 t209 t210 w0 _ ?side1 ?side2 A25.out).mono ?_);(case side1=>repeat (first | (with_reducible first | exact HI0.out | apply IsS86.alloc | apply IsS86.drewN | apply IsS86.drew | apply IsS86.set_1) | exact HI0.out));(case side2=>repeat (first | (with_reducible first | exact HB.out | apply below_alloc | apply pw_below_drewN | apply below_drew1 | refine below_set ?_ (IsS86.ge HI0.out)) | exact HB.out));rintro e w29 ⟨rfl,hi,hb,hk⟩;refine ⟨_,rfl,?_⟩;have n0_:=Aside0.mk (Kd.R_mono (Kd.R_keep (IsS86.apart (show IsS86 w0 _ g s0_0 t208 from by repeat (first | (with_reducible first | exact HI0.out | apply IsS86.alloc | apply IsS86.drewN | apply IsS86.drew | apply IsS86.set_1) | exact HI0.out)) (by (with_reducible repeat (first | apply Kd.R_alloc | apply Kd.R_drewN | apply Kd.R_drew));exact HO_5.out) (by decide)) hk (fun _ h=>h.2)) (fun _ h=>h.1));have n1_:=Aside0.mk (KeepBut.trans (by repeat (first | (with_reducible first | exact HK.out | apply KeepBut.set_ | apply keep_drewN | apply keep_drew | apply keep_alloc) | exact HK.out)) hk (.inl rfl));have n2_:=Aside0.mk (hb);have n3_:=Aside0.mk (hi);clear HO_5;clear HK;clear HB;clear HI0;have HO_5:=n0_;have HK:=n1_;have HB:=n2_;have HI0:=n3_;clear n0_ n1_ n2_ n3_;(try clear hb);(try clear hb2);(try clear hk);(try clear hi)) | ((with_reducible refine gate_callee (f:=65) rfl ?_);refine goesL_ (some 39) rfl rfl Try.func65 (by kernel_rfl) rfl #[.pointer (some ⟨g,0,none⟩),.int .i64 6] rfl (by (try simp only [List.map_toArray,List.map_cons,List.map_nil]);first | done | rfl | (simp only [List.length_drop,List.length_take];rfl)) ?_;(with_reducible refine (spec_l6Rd_pick.calls kj3 g s0_0 t210 6 t211 t212 w0 _ ?side1 ?side2 A26.out).mono ?_);(case side1=>repeat (first | (with_reducible first | exact HI0.out | apply IsS86.alloc | apply IsS86.drewN | apply IsS86.drew | apply IsS86.set_1) | exact HI0.out));(case side2=>repeat (first | (with_reducible first | exact HB.out | apply below_alloc | apply pw_below_drewN | apply below_drew1 | refine below_set ?_ (IsS86.ge HI0.out)) | exact HB.out));rintro e w30 ⟨rfl,hi,hb,hk⟩;refine ⟨_,rfl,?_⟩;have n0_:=Aside0.mk (Kd.R_mono (Kd.R_keep (IsS86.apart (show IsS86 w0 _ g s0_0 t210 from by repeat (first | (with_reducible first | exact HI0.out | apply IsS86.alloc | apply IsS86.drewN | apply IsS86.drew | apply IsS86.set_1) | exact HI0.out)) (by (with_reducible repeat (first | apply Kd.R_alloc | apply Kd.R_drewN | apply Kd.R_drew));exact HO_5.out) (by decide)) hk (fun _ h=>h.2)) (fun _ h=>h.1));have n1_:=Aside0.mk (KeepBut.trans (by repeat (first | (with_reducible first | exact HK.out | apply KeepBut.set_ | apply keep_drewN | apply keep_drew | apply keep_alloc) | exact HK.out)) hk (.inl rfl));have n2_:=Aside0.mk (hb);have n3_:=Aside0.mk (hi);clear HO_5;clear HK;clear HB;clear HI0;have HO_5:=n0_;have HK:=n1_;have HB:=n2_;have HI0:=n3_;clear n0_ n1_ n2_ n3_;(try clear hb);(try clear hb2);(try clear hk);(try clear hi)) | ((with_reducible refine gate_builtin (b:=.append) (xs:=#[.tmp 34,.tmp 42]) rfl ?_);at_builtin;refine Kd.R_append k32 w.heap.size rfl (.tmp 34) (.tmp 42) 24 32 (.agg #[(.int .i64 0),(.int .i64 0)]) 16 rfl Try.underlying24 info32 rfl (by decide) (by omega) u5 x5_3 (⟨wrap64 (t209 - 1),wrap64 (t211 - 2)⟩:S32) [.int .i64 (wrap64 (t209 - 1)),.int .i64 (wrap64 (t211 - 2))] (fun _=>True) (fun _=>False) rfl rfl ?aP (fun _ hk=>hk.elim) ?aF ?aO (Below.refl _ _) ?aS ?aL ?_;(case aP=>exact k32_mkM _ _ _ (⟨wrap64 (t209 - 1),wrap64 (t211 - 2)⟩:S32));(case aF=>exact (fun _ _=>trivial));(case aO=>exact (by (with_reducible repeat (first | apply Kd.R_alloc | apply Kd.R_drewN | apply Kd.R_drew));exact HO_5.out));(case aS=>exact (keep_size (w:=w) (g:=g) (row:=none) (by repeat (first | (with_reducible first | exact HK.out | apply KeepBut.set_ | apply keep_drewN | apply keep_drew | apply keep_alloc) | exact HK.out))));(case aL=>have:=LMc27.out;omega);intro v214 w31 ho hb hg hat;rw [← Ny213.out] at ho;have n0_:=Aside0.mk (IsS86.grown (by repeat (first | (with_reducible first | exact HI0.out | apply IsS86.alloc | apply IsS86.drewN | apply IsS86.drew | apply IsS86.set_1) | exact HI0.out)) hg (IsS86.own_ne HI0.out HO_5.out (by decide)));have n1_:=Aside0.mk (below_weaken (by repeat (first | (with_reducible first | exact HB.out | apply below_alloc | apply pw_below_drewN | apply below_drew1 | refine below_set ?_ (IsS86.ge HI0.out)) | exact HB.out)) HL.out hb);have n2_:=Aside0.mk (KeepBut.trans (by repeat (first | (with_reducible first | exact HK.out | apply KeepBut.set_ | apply keep_drewN | apply keep_drew | apply keep_alloc) | exact HK.out)) (KeepBut.of_grown hg g) (Kd.R_base2 HO_5.out));have n3_:=Aside0.mk (ho);clear HI0;clear HB;clear HK;clear HO_5;have HI0:=n0_;have HB:=n1_;have HK:=n2_;have HO215:=n3_;clear n0_ n1_ n2_ n3_;clear ho hb hg hat))
     go_ret
     exact ⟨_,by first | rfl | (simp [errW_none,errW_some] <;> rfl) | (simp [*,errW_none,errW_some] <;> rfl),by (with_reducible repeat (first | apply Kd.R_alloc | apply Kd.R_drewN | apply Kd.R_drew));exact HO215.out,by repeat (first | (with_reducible first | exact HI0.out | apply IsS86.alloc | apply IsS86.drewN | apply IsS86.drew | apply IsS86.set_1) | exact HI0.out),by repeat (first | (with_reducible first | exact HB.out | apply below_alloc | apply pw_below_drewN | apply below_drew1 | refine below_set ?_ (IsS86.ge HI0.out)) | exact HB.out),by repeat (first | (with_reducible first | exact HK.out | apply KeepBut.set_ | apply keep_drewN | apply keep_drew | apply keep_alloc) | exact HK.out)⟩
    ·rw [if_neg c27] at H
     exact absurd H (by simp)
   ·rw [if_neg c24] at H
    have c24b0:(t207 == 0) = false:=beq_eq_false_iff_ne.mpr c24
    have c24b1:(t207 != 0) = true:=bne_iff_ne.mpr c24
    simp only [Option.some.injEq,Prod.mk.injEq] at H
    obtain ⟨rfl,rfl⟩:=H
    go_wp2_with (first | ((with_reducible refine gate_callee (f:=65) rfl ?_);refine goesL_ (some 32) rfl rfl Try.func65 (by kernel_rfl) rfl #[.pointer (some ⟨g,0,none⟩),.int .i64 20] rfl (by (try simp only [List.map_toArray,List.map_cons,List.map_nil]);first | done | rfl | (simp only [List.length_drop,List.length_take];rfl)) ?_;(with_reducible refine (spec_l6Rd_pick.calls kj3 g s0_0 x1001_3 20 t207 t208 w0 _ ?side1 ?side2 A23.out).mono ?_);(case side1=>repeat (first | (with_reducible first | exact HI0.out | apply IsS86.alloc | apply IsS86.drewN | apply IsS86.drew | apply IsS86.set_1) | exact HI0.out));(case side2=>repeat (first | (with_reducible first | exact HB.out | apply below_alloc | apply pw_below_drewN | apply below_drew1 | refine below_set ?_ (IsS86.ge HI0.out)) | exact HB.out));rintro e w32 ⟨rfl,hi,hb,hk⟩;refine ⟨_,rfl,?_⟩;have n0_:=Aside0.mk (Kd.R_mono (Kd.R_keep (IsS86.apart (show IsS86 w0 _ g s0_0 x1001_3 from by repeat (first | (with_reducible first | exact HI0.out | apply IsS86.alloc | apply IsS86.drewN | apply IsS86.drew | apply IsS86.set_1) | exact HI0.out)) (by (with_reducible repeat (first | apply Kd.R_alloc | apply Kd.R_drewN | apply Kd.R_drew));exact HO_5.out) (by decide)) hk (fun _ h=>h.2)) (fun _ h=>h.1));have n1_:=Aside0.mk (KeepBut.trans (by repeat (first | (with_reducible first | exact HK.out | apply KeepBut.set_ | apply keep_drewN | apply keep_drew | apply keep_alloc) | exact HK.out)) hk (.inl rfl));have n2_:=Aside0.mk (hb);have n3_:=Aside0.mk (hi);clear HO_5;clear HK;clear HB;clear HI0;have HO_5:=n0_;have HK:=n1_;have HB:=n2_;have HI0:=n3_;clear n0_ n1_ n2_ n3_;(try clear hb);(try clear hb2);(try clear hk);(try clear hi)))
    go_ret
    exact ⟨_,by first | rfl | (simp [errW_none,errW_some] <;> rfl) | (simp [*,errW_none,errW_some] <;> rfl),by (with_reducible repeat (first | apply Kd.R_alloc | apply Kd.R_drewN | apply Kd.R_drew));exact HO_5.out,by repeat (first | (with_reducible first | exact HI0.out | apply IsS86.alloc | apply IsS86.drewN | apply IsS86.drew | apply IsS86.set_1) | exact HI0.out),by repeat (first | (with_reducible first | exact HB.out | apply below_alloc | apply pw_below_drewN | apply below_drew1 | refine below_set ?_ (IsS86.ge HI0.out)) | exact HB.out),by repeat (first | (with_reducible first | exact HK.out | apply KeepBut.set_ | apply keep_drewN | apply keep_drew | apply keep_alloc) | exact HK.out)⟩
def laws_mnEvents.l0:Nat → List (S32) → List (S32) → Int → Option (Bool)
 | 0,_,_,_=>none
 | k + 1,x0,x1,x5=>if x5 < (x0.length:Int) then (if 0 ≤ x5 then (if x5 < (x1.length:Int) then (if (!(((rd_T32 x0 x5).f0) == ((rd_T32 x1 x5).f0)) || (!(((rd_T32 x0 x5).f1) == ((rd_T32 x1 x5).f1)))) = true then (some false) else (laws_mnEvents.l0 k x0 x1 (wrap64 (x5 + 1)))) else (none)) else (none)) else (some true)
def laws_mnEvents.f (k:Nat) (l0:List (S32)) (l1:List (S32)):Option (Bool):=if (l0.length:Int) = (l1.length:Int) then (laws_mnEvents.l0 k l0 l1 0) else (some false)
theorem laws_mnEvents.mono_l:∀ k,(∀ y0 y1 y2,LeO (laws_mnEvents.l0 k y0 y1 y2) (laws_mnEvents.l0 (k + 1) y0 y1 y2))
 | 0=>fun _ _ _ r h=>by simp [laws_mnEvents.l0] at h
 | k + 1=>by
  have ih0:=laws_mnEvents.mono_l k
  ·intro y0 y1 y2
   unfold laws_mnEvents.l0
   repeat' first
   | (with_reducible exact ih0 _ _ _)
   | (with_reducible exact LeO.refl _)
   | (with_reducible exact LeO.none _)
   | (with_reducible refine LeO.ite ?_ ?_)
   | (with_reducible refine LeO.bind ?_ (fun _=>?_))
   | exact ih0 _ _ _
   | exact LeO.none _
   | refine LeO.ite ?_ ?_
   | refine LeO.bind ?_ (fun _=>?_)
theorem laws_mnEvents.mono:∀ a0 a1 k,LeO (laws_mnEvents.f k a0 a1) (laws_mnEvents.f (k + 1) a0 a1):=by
 intro a0 a1 k
 have ih0:=laws_mnEvents.mono_l k
 unfold laws_mnEvents.f
 repeat' first
   | (with_reducible exact ih0 _ _ _)
   | (with_reducible exact LeO.refl _)
   | (with_reducible exact LeO.none _)
   | (with_reducible refine LeO.ite ?_ ?_)
   | (with_reducible refine LeO.bind ?_ (fun _=>?_))
   | exact ih0 _ _ _
   | exact LeO.none _
   | refine LeO.ite ?_ ?_
   | refine LeO.bind ?_ (fun _=>?_)
set_option maxHeartbeats 8000000 in
set_option maxRecDepth 100000 in
theorem laws_mnEvents.calls (k:Nat) (A0:Option Addr) (c0:Nat) (l0:List (S32)) (A1:Option Addr) (c1:Nat) (l1:List (S32)) (r:Bool) (w:World) (hr0:Kd.C k32 w A0 l0.length l0) (hc0:l0.length ≤ c0) (hr1:Kd.C k32 w A1 l1.length l1) (hc1:l1.length ≤ c1) (h:laws_mnEvents.f k l0 l1 = some r) :
  Calls Try.prog 34 #[.slice A0 l0.length c0,.slice A1 l1.length c1] w fun e w'=>e = .returned (.bool r)∧Drawn0 w w':=by
 have hu32:=Try.underlying32
 have HR0:=Aside0.mk hr0
 have HC0:=Aside0.mk hc0
 clear hr0 hc0
 have HR1:=Aside0.mk hr1
 have HC1:=Aside0.mk hc1
 clear hr1 hc1
 have H:(if (l0.length:Int) = (l1.length:Int) then (laws_mnEvents.l0 k l0 l1 0) else (some false)) = some r:=h
 clear h
 by_cases c3:(l0.length:Int) = (l1.length:Int)
 ·rw [if_pos c3] at H
  have c3b0:((l0.length:Int) == (l1.length:Int)) = true:=beq_iff_eq.mpr c3
  have c3b1:((l0.length:Int) != (l1.length:Int)) = false:=bne_eq_false_iff_eq.mpr c3
  have c3b2:(l0.length == l1.length) = true:=by first | simpa using c3 | (simp at c3 ⊢;omega)
  clear c3
  have H':=Aside0.mk H
  clear H
  go_enter Try.func34,Try.ntmps34
  go_wp2
  repeat (go_quiet (fail);try go_wp2)
  go_loopg [5] k (fun kq v5 w'=>∃ (x5_1:Int),v5 = .int .i64 x5_1∧Aside0 (laws_mnEvents.l0 kq l0 l1 x5_1 = some r)∧Aside0 (kq ≤ k)∧Drawn0 w w')
  case atStart=>exact ⟨(0),(by first | rfl | (simp;done) | (simp [*];done)),H',⟨Nat.le_refl _⟩,by repeat (first | exact Drawn0.refl _ | apply Drawn0.step)⟩
  case round =>
   clear H'
   try clear c1
   try clear p2
   try clear c3
   try clear c3b0
   try clear c3b1
   try clear c3b2
   obtain ⟨x5_1,rfl,HA,HK1,⟨m1,rfl⟩⟩:=hrel
   cases gk with
   | zero=>exact absurd HA.out (by simp [laws_mnEvents.l0])
   | succ k1 =>
    have H:=HA.out
    clear HA
    simp only [laws_mnEvents.l0] at H
    by_cases c4:x5_1 < (l0.length:Int)
    ·rw [if_pos c4] at H
     have c4b0:decide (x5_1 < (l0.length:Int)) = true:=decide_eq_true c4
     clear c4
     by_cases c5:0 ≤ x5_1
     ·rw [if_pos c5] at H
      have c5b0:decide (0 ≤ x5_1) = true:=decide_eq_true c5
      clear c5
      by_cases c6:x5_1 < (l1.length:Int)
      ·rw [if_pos c6] at H
       have c6b0:decide (x5_1 < (l1.length:Int)) = true:=decide_eq_true c6
       clear c6
       by_cases c7:(!(((rd_T32 l0 x5_1).f0) == ((rd_T32 l1 x5_1).f0)) || (!(((rd_T32 l0 x5_1).f1) == ((rd_T32 l1 x5_1).f1)))) = true
       ·rw [if_pos c7] at H
        have c7b0:(!(((rd_T32 l0 x5_1).f0) == ((rd_T32 l1 x5_1).f0)) || (!(((rd_T32 l0 x5_1).f1) == ((rd_T32 l1 x5_1).f1)))) = true:=c7
        clear c7
        obtain rfl:=Option.some.inj H
        have p381:0 ≤ (x5_1:Int):=of_decide_eq_true (by first | (with_reducible assumption) | assumption)
        have q381:x5_1 < (l0.length:Int):=of_decide_eq_true (by first | (with_reducible assumption) | assumption)
        obtain ⟨ad381,e381,hx381_0,hx381_1⟩:=at_T32 HR0.out x5_1 p381 q381
        cases e381
        replace p381:=eq_true p381
        replace q381:=eq_true q381
        have p382:0 ≤ (x5_1:Int):=of_decide_eq_true (by first | (with_reducible assumption) | assumption)
        have q382:x5_1 < (l1.length:Int):=of_decide_eq_true (by first | (with_reducible assumption) | assumption)
        obtain ⟨ad382,e382,hx382_0,hx382_1⟩:=at_T32 HR1.out x5_1 p382 q382
        cases e382
        replace p382:=eq_true p382
        replace q382:=eq_true q382
        go_wp2
        repeat (go_quiet (fail);try go_wp2)
        go_ret
        exact ⟨by first | rfl | (simp;done) | (simp [*];done),by repeat (first | exact Drawn0.refl _ | apply Drawn0.step)⟩
       ·rw [if_neg c7] at H
        have c7b0:(!(((rd_T32 l0 x5_1).f0) == ((rd_T32 l1 x5_1).f0)) || (!(((rd_T32 l0 x5_1).f1) == ((rd_T32 l1 x5_1).f1)))) = false:=by simpa using c7
        clear c7
        have H':=Aside0.mk H
        clear H
        have p381:0 ≤ (x5_1:Int):=of_decide_eq_true (by first | (with_reducible assumption) | assumption)
        have q381:x5_1 < (l0.length:Int):=of_decide_eq_true (by first | (with_reducible assumption) | assumption)
        obtain ⟨ad381,e381,hx381_0,hx381_1⟩:=at_T32 HR0.out x5_1 p381 q381
        cases e381
        replace p381:=eq_true p381
        replace q381:=eq_true q381
        have p382:0 ≤ (x5_1:Int):=of_decide_eq_true (by first | (with_reducible assumption) | assumption)
        have q382:x5_1 < (l1.length:Int):=of_decide_eq_true (by first | (with_reducible assumption) | assumption)
        obtain ⟨ad382,e382,hx382_0,hx382_1⟩:=at_T32 HR1.out x5_1 p382 q382
        cases e382
        replace p382:=eq_true p382
        replace q382:=eq_true q382
        go_wp2
        repeat (go_quiet (fail);try go_wp2)
        go_roundg k1
        case measure=>have:=HK1.out;omega
        case rel=>exact ⟨(wrap64 (x5_1 + 1)),(by first | rfl | (simp;done) | (simp [*];done)),H',⟨by have:=HK1.out;omega⟩,by repeat (first | exact Drawn0.refl _ | apply Drawn0.step)⟩
      ·rw [if_neg c6] at H
       exact absurd H (by simp)
     ·rw [if_neg c5] at H
      exact absurd H (by simp)
    ·rw [if_neg c4] at H
     have c4b0:decide (x5_1 < (l0.length:Int)) = false:=decide_eq_false c4
     clear c4
     obtain rfl:=Option.some.inj H
     go_wp2
     repeat (go_quiet (fail);try go_wp2)
     go_ret
     exact ⟨by first | rfl | (simp;done) | (simp [*];done),by repeat (first | exact Drawn0.refl _ | apply Drawn0.step)⟩
 ·rw [if_neg c3] at H
  have c3b0:((l0.length:Int) == (l1.length:Int)) = false:=beq_eq_false_iff_ne.mpr c3
  have c3b1:((l0.length:Int) != (l1.length:Int)) = true:=bne_iff_ne.mpr c3
  have c3b2:(l0.length == l1.length) = false:=by first | simpa using c3 | (simp at c3 ⊢;omega)
  obtain rfl:=Option.some.inj H
  go_enter Try.func34,Try.ntmps34
  go_wp2
  repeat (go_quiet (fail);try go_wp2)
  go_ret
  exact ⟨by first | rfl | (simp;done) | (simp [*];done),by repeat (first | exact Drawn0.refl _ | apply Drawn0.step)⟩
def spec_l19Without.f (l0:List (S32)) (a1:Int):Option ((List (S32))):=(some (([]:List (S32)):List (S32))).bind fun y469=>(if 0 ≤ a1 then (if a1 ≤ (l0.length:Int) then ((some (l0.take (a1:Int).toNat:List (S32))).bind fun y472=>(if y469.length + y472.length < 8796093022208 then ((some (y469 ++ y472:List (S32))).bind fun y476=>(if 0 ≤ (wrap64 (a1 + 1)) then (if (wrap64 (a1 + 1)) ≤ (l0.length:Int) then ((some (l0.drop ((wrap64 (a1 + 1)):Int).toNat:List (S32))).bind fun y479=>(if y476.length + y479.length < 8796093022208 then (some (y476 ++ y479)) else (none))) else (none)) else (none))) else (none))) else (none)) else (none))
def spec_l19Without.T1:Bool × List (List Nat × List Nat):=(true,[([],[]),([],[]),([],[]),([1,2],[1,2]),([0,3],[0,3]),([],[]),([],[]),([6],[6]),([5,7],[5,7]),([4,8,4],[4,8]),([9,9,0,1,2,3,4,5,6,7,8,9],[9])])
def spec_l19Without.B1:List Nat:=[0,0,0,6,15,0,0,64,224,511,1023]
theorem spec_l19Without.tab1:rtab .any (opsOf Try.f73 1) = spec_l19Without.T1:=by kernel_rfl
theorem spec_l19Without.bits1:waitsOk spec_l19Without.T1.2 spec_l19Without.B1 = true:=by kernel_rfl
set_option maxHeartbeats 8000000 in
set_option maxRecDepth 100000 in
theorem spec_l19Without.calls (A0:Option Addr) (c0:Nat) (l0:List (S32)) (a1:Int) (r:List (S32)) (w:World) (hr0:Kd.C k32 w A0 l0.length l0) (hc0:l0.length ≤ c0) (h:spec_l19Without.f l0 a1 = some r) :
  Calls Try.prog 73 #[.slice A0 l0.length c0,.int .i64 a1] w fun e w'=>∃ v0_:Value,e = .returned (v0_)∧Kd.R k32 32 w' w.heap.size (fun _=>True) v0_ r∧Below w.heap.size w w':=by
 have HR0:=Aside0.mk hr0
 have HC0:=Aside0.mk hc0
 clear hr0 hc0
 have HB:=Aside0.mk (Below.refl w.heap.size w)
 have H:((some (([]:List (S32)):List (S32))).bind fun y469=>(if 0 ≤ a1 then (if a1 ≤ (l0.length:Int) then ((some (l0.take (a1:Int).toNat:List (S32))).bind fun y472=>(if y469.length + y472.length < 8796093022208 then ((some (y469 ++ y472:List (S32))).bind fun y476=>(if 0 ≤ (wrap64 (a1 + 1)) then (if (wrap64 (a1 + 1)) ≤ (l0.length:Int) then ((some (l0.drop ((wrap64 (a1 + 1)):Int).toNat:List (S32))).bind fun y479=>(if y476.length + y479.length < 8796093022208 then (some (y476 ++ y479)) else (none))) else (none)) else (none))) else (none))) else (none)) else (none))) = some r:=h
 clear h
 obtain ⟨y469,hy469⟩:∃ y_:List (S32),y_ = (([]:List (S32))):=⟨_,rfl⟩
 replace H:(if 0 ≤ a1 then (if a1 ≤ (l0.length:Int) then ((some (l0.take (a1:Int).toNat:List (S32))).bind fun y472=>(if y469.length + y472.length < 8796093022208 then ((some (y469 ++ y472:List (S32))).bind fun y476=>(if 0 ≤ (wrap64 (a1 + 1)) then (if (wrap64 (a1 + 1)) ≤ (l0.length:Int) then ((some (l0.drop ((wrap64 (a1 + 1)):Int).toNat:List (S32))).bind fun y479=>(if y476.length + y479.length < 8796093022208 then (some (y476 ++ y479)) else (none))) else (none)) else (none))) else (none))) else (none)) else (none)) = some r:=by first | (rw [hy469];with_reducible exact H) | (have H2_:=(Option.bind_some _ _).symm.trans H;rw [hy469];with_reducible exact H2_) | (have H2_:=(Option.bind_some _ _).symm.trans H;with_reducible exact H2_) | with_reducible exact H | (rw [hy469];exact H) | exact H
 have Ny469:=Aside0.mk hy469
 clear hy469
 by_cases c3:0 ≤ a1
 ·rw [if_pos c3] at H
  have c3b0:=eq_true c3
  have c3b1:decide (0 ≤ a1) = true:=decide_eq_true c3
  clear c3
  by_cases c4:a1 ≤ (l0.length:Int)
  ·rw [if_pos c4] at H
   have c4b0:=eq_true c4
   have c4b1:decide (a1 ≤ (l0.length:Int)) = true:=decide_eq_true c4
   clear c4
   obtain ⟨y472,hy472⟩:∃ y_:List (S32),y_ = (l0.take (a1:Int).toNat):=⟨_,rfl⟩
   replace H:(if y469.length + y472.length < 8796093022208 then ((some (y469 ++ y472:List (S32))).bind fun y476=>(if 0 ≤ (wrap64 (a1 + 1)) then (if (wrap64 (a1 + 1)) ≤ (l0.length:Int) then ((some (l0.drop ((wrap64 (a1 + 1)):Int).toNat:List (S32))).bind fun y479=>(if y476.length + y479.length < 8796093022208 then (some (y476 ++ y479)) else (none))) else (none)) else (none))) else (none)) = some r:=by first | (rw [hy472];with_reducible exact H) | (have H2_:=(Option.bind_some _ _).symm.trans H;rw [hy472];with_reducible exact H2_) | (have H2_:=(Option.bind_some _ _).symm.trans H;with_reducible exact H2_) | with_reducible exact H | (rw [hy472];exact H) | exact H
   have Ny472:=Aside0.mk hy472
   clear hy472
   by_cases c5:y469.length + y472.length < 8796093022208
   ·rw [if_pos c5] at H
    have LMc5:=Aside0.mk c5
    clear c5
    obtain ⟨y476,hy476⟩:∃ y_:List (S32),y_ = (y469 ++ y472):=⟨_,rfl⟩
    replace H:(if 0 ≤ (wrap64 (a1 + 1)) then (if (wrap64 (a1 + 1)) ≤ (l0.length:Int) then ((some (l0.drop ((wrap64 (a1 + 1)):Int).toNat:List (S32))).bind fun y479=>(if y476.length + y479.length < 8796093022208 then (some (y476 ++ y479)) else (none))) else (none)) else (none)) = some r:=by first | (rw [hy476];with_reducible exact H) | (have H2_:=(Option.bind_some _ _).symm.trans H;rw [hy476];with_reducible exact H2_) | (have H2_:=(Option.bind_some _ _).symm.trans H;with_reducible exact H2_) | with_reducible exact H | (rw [hy476];exact H) | exact H
    have Ny476:=Aside0.mk hy476
    clear hy476
    obtain ⟨ji6,hji6⟩:∃ j_:Int,(wrap64 (a1 + 1)) = j_:=⟨_,rfl⟩
    replace H:(if 0 ≤ (ji6) then (if (ji6) ≤ (l0.length:Int) then ((some (l0.drop ((ji6):Int).toNat:List (S32))).bind fun y479=>(if y476.length + y479.length < 8796093022208 then (some (y476 ++ y479)) else (none))) else (none)) else (none)) = some r:=by first | (rw [hji6] at H;exact H) | (simp only [hji6] at H ⊢;exact H)
    have hji6w:(IntKind.i64.wrap (a1 + 1)) = ji6:=(i64_w _).trans hji6
    by_cases c7:0 ≤ (ji6)
    ·rw [if_pos c7] at H
     have c7b0:=eq_true c7
     have c7b1:decide (0 ≤ (ji6)) = true:=decide_eq_true c7
     clear c7
     by_cases c8:(ji6) ≤ (l0.length:Int)
     ·rw [if_pos c8] at H
      have c8b0:=eq_true c8
      have c8b1:decide ((ji6) ≤ (l0.length:Int)) = true:=decide_eq_true c8
      clear c8
      obtain ⟨y479,hy479⟩:∃ y_:List (S32),y_ = (l0.drop ((ji6):Int).toNat):=⟨_,rfl⟩
      replace H:(if y476.length + y479.length < 8796093022208 then (some (y476 ++ y479)) else (none)) = some r:=by first | (rw [hy479];with_reducible exact H) | (have H2_:=(Option.bind_some _ _).symm.trans H;rw [hy479];with_reducible exact H2_) | (have H2_:=(Option.bind_some _ _).symm.trans H;with_reducible exact H2_) | with_reducible exact H | (rw [hy479];exact H) | exact H
      have Ny479:=Aside0.mk hy479
      clear hy479
      by_cases c9:y476.length + y479.length < 8796093022208
      ·rw [if_pos c9] at H
       have LMc9:=Aside0.mk c9
       clear c9
       obtain ⟨y483,hy483⟩:∃ y_:List (S32),y_ = (y476 ++ y479):=⟨_,rfl⟩
       replace H:(some y483) = some r:=by first | (rw [hy483];with_reducible exact H) | (have H2_:=(Option.bind_some _ _).symm.trans H;rw [hy483];with_reducible exact H2_) | (have H2_:=(Option.bind_some _ _).symm.trans H;with_reducible exact H2_) | with_reducible exact H | (rw [hy483];exact H) | exact H
       have Ny483:=Aside0.mk hy483
       clear hy483
       obtain rfl:=Option.some.inj H
       go_enter Try.func73,Try.ntmps73
       try go_wp2
       have n0_:=Aside0.mk (below_drew1 HB.out)
       clear HB
       have HB:=n0_
       clear n0_
       have q11:(a1:Int) ≤ ((l0.length:Int):Int):=of_decide_eq_true (by first | (with_reducible assumption) | assumption)
       obtain ⟨i011,hi011,_,hsz11,_⟩:=info_parts info32
       have hroom11:l0.length ≤ c0:=HC0.out
       have hC11:Kd.C k32 _ A0 l0.length l0:=HR0.out
       have hcut11:=cut_to (P:=Try.prog) 24 32 .i64 Try.underlying24 hi011 A0 l0.length c0 a1 (of_decide_eq_true (by first | (with_reducible assumption) | assumption)) q11 hroom11
       have hr11:=Kd.C_take (m:=(a1:Int).toNat) hC11 (by omega)
       have hy11:y472.length = (a1:Int).toNat:=(by rw [Ny472.out,List.length_take];omega)
       rw [← Ny472.out] at hr11
       rw [← hy11] at hcut11
       have HR475:=Aside0.mk hr11
       have HC475:=Aside0.mk (show y472.length ≤ c0 from by omega)
       clear hr11 hC11 hroom11 hi011 hsz11
       have KY11:=Aside0.mk hy11
       clear hy11
       replace q11:=eq_true q11
       have q12:((ji6):Int) ≤ ((l0.length:Int):Int):=of_decide_eq_true (by first | (with_reducible assumption) | assumption)
       obtain ⟨i012,hi012,_,hsz12,_⟩:=info_parts info32
       have hroom12:l0.length ≤ c0:=HC0.out
       have hC12:Kd.C k32 _ A0 l0.length l0:=HR0.out
       have q012:(0:Int) ≤ ((ji6):Int):=of_decide_eq_true (by first | (with_reducible assumption) | assumption)
       have hcut12:=cut_from (P:=Try.prog) 24 32 .i64 Try.underlying24 hi012 2 hsz12 A0 l0.length c0 (ji6) q012 q12
       have hr12:=Kd.C_drop (m:=((ji6):Int).toNat) (c:=c0) hC12 (by omega) hroom12
       obtain ⟨A12,hA12⟩:∃ A1,A1 = (if c0 = ((ji6):Int).toNat then A0 else (A0:Option Addr).map (·.add (((ji6):Int).toNat * 2))):=⟨_,rfl⟩
       obtain ⟨c12,hc12⟩:∃ c1,c1 = c0 - ((ji6):Int).toNat:=⟨_,rfl⟩
       have hy12:y479.length = l0.length - ((ji6):Int).toNat:=(by rw [Ny479.out,List.length_drop] <;> omega)
       rw [show (l0).drop ((ji6):Int).toNat = y479 from Ny479.out.symm] at hr12
       replace hr12:Kd.C k32 _ A12 y479.length y479:=(by rw [hA12];exact hr12)
       rw [← hy12,← hA12,← hc12] at hcut12
       have HR482:=Aside0.mk hr12
       have HC482:=Aside0.mk (show y479.length ≤ c12 from by rw [hy12,hc12];exact Nat.sub_le_sub_right hroom12 _)
       clear hr12 hC12 hroom12 hi012 hsz12 hc12
       have KY12:=Aside0.mk hy12
       have KA12:=Aside0.mk hA12
       clear hy12 hA12
       replace q12:=eq_true q12
       refine start_ (n:=11) (S:=fun w'=>True) (ds:=[]) #[false,false,false,false,false,false,false,false,false,false,false] (by kernel_rfl) rfl rfl trivial (fun hHeld=>?_);refine with_tabW spec_l19Without.tab1 spec_l19Without.bits1 (fun HT_ HW_=>?_)
       generalize w.drew = w10 at HB HR475 HR482 hHeld ⊢
       refine pure_ (i:=1) (N:=some 6) (v:=?_) (a':=?_) #[false,true,false,false,false,false,false,false,false,false,false] rfl rfl (any_of HT_.out (by kernel_rfl)) (fun _ _ _ h=>h) (Or.inl ⟨by rfl,?_⟩) ?_ ?_
       rotate_left;·intro w';go_simp;with_reducible rfl
       rotate_left;·simp only [Act.put,List.setIfInBounds_toArray,List.set_cons_zero,List.set_cons_succ,i64_w,i32_w];rfl
       refine pure_ (i:=2) (N:=some 7) (v:=?_) (a':=?_) #[false,true,true,false,false,false,false,false,false,false,false] rfl rfl (any_of HT_.out (by kernel_rfl)) (fun _ _ _ h=>h) (Or.inl ⟨by rfl,?_⟩) ?_ ?_
       rotate_left;·intro w';go_simp;with_reducible rfl
       rotate_left;·simp only [Act.put,List.setIfInBounds_toArray,List.set_cons_zero,List.set_cons_succ,i64_w,i32_w];rfl
       refine pure_ (i:=3) (N:=some 8) (v:=?_) (a':=?_) #[false,true,true,true,false,false,false,false,false,false,false] rfl rfl (any_of HT_.out (by kernel_rfl)) (fun _ _ _ h=>h) (Or.inl ⟨by rfl,?_⟩) ?_ ?_
       rotate_left;·intro w';go_simp;with_reducible rfl
       rotate_left;·simp only [Act.put,List.setIfInBounds_toArray,List.set_cons_zero,List.set_cons_succ,i64_w,i32_w];rfl
       refine pure_ (i:=5) (N:=some 10) (v:=?_) (a':=?_) #[false,true,true,true,false,true,false,false,false,false,false] rfl rfl (any_of HT_.out (by kernel_rfl)) (fun _ _ _ h=>h) (Or.inl ⟨by rfl,?_⟩) ?_ ?_
       rotate_left;·intro w';go_simp;with_reducible rfl
       rotate_left;·simp only [Act.put,List.setIfInBounds_toArray,List.set_cons_zero,List.set_cons_succ,i64_w,i32_w];rfl
       refine pure_ (i:=6) (N:=some 11) (v:=?_) (a':=?_) #[false,true,true,true,false,true,true,false,false,false,false] rfl rfl (any_of HT_.out (by kernel_rfl)) (fun _ _ _ h=>h) (Or.inl ⟨by rfl,?_⟩) ?_ ?_
       rotate_left;·intro w';go_simp;with_reducible rfl
       rotate_left;·simp only [Act.put,List.setIfInBounds_toArray,List.set_cons_zero,List.set_cons_succ,i64_w,i32_w];rfl
       refine pure_ (i:=7) (N:=some 12) (v:=?_) (a':=?_) #[false,true,true,true,false,true,true,true,false,false,false] rfl rfl (any_of HT_.out (by kernel_rfl)) (fun _ _ _ h=>h) (Or.inl ⟨by rfl,?_⟩) ?_ ?_
       rotate_left;·intro w';go_simp;with_reducible rfl
       rotate_left;·simp only [Act.put,List.setIfInBounds_toArray,List.set_cons_zero,List.set_cons_succ,i64_w,i32_w];rfl
       refine pure_ (i:=8) (N:=some 13) (v:=?_) (a':=?_) #[false,true,true,true,false,true,true,true,true,false,false] rfl rfl (any_of HT_.out (by kernel_rfl)) (fun _ _ _ h=>h) (Or.inl ⟨by rfl,?_⟩) ?_ ?_
       rotate_left;·intro w';go_simp;with_reducible rfl
       rotate_left;·simp only [Act.put,List.setIfInBounds_toArray,List.set_cons_zero,List.set_cons_succ,i64_w,i32_w];rfl
       refine one_ (i:=0) (N:=some 5) #[true,true,true,true,false,true,true,true,true,false,false] rfl rfl (one_of HT_.out (by kernel_rfl)) (by decide) (fun K hK=>?_)
       refine Kd.R_lit_step k32 _ 32 ?hg (N:=5) ?hd (xs:=([]:List (S32))) (inner:=[]) (ok:=fun _=>True) (okp:=fun _=>True) ?hr ?hp (fun _ hk=>hk) trivial (Below.refl _ _) (Nat.le_refl _) (by simp) ?_;(case hd=>rfl);(case hg=>rfl);(case hr=>first | (go_simp;done) | (go_simp;rfl));(case hp=>exact (Reps.none _ _))
       intro v470 w13 ho14 hb hg_ hnew_
       clear hg_ hnew_
       (first | rw [← Ny469.out] at ho14 | (simp only [Int.reduceToNat] at ho14;rw [← Ny469.out] at ho14))
       have n0_:=Aside0.mk (Kd.R_lower ho14 (below_size (by repeat (first | (with_reducible first | exact HB.out | apply below_alloc | apply pw_below_drewN | apply below_drew1) | exact HB.out))))
       have n1_:=Aside0.mk (below_step (by repeat (first | (with_reducible first | exact HB.out | apply below_alloc | apply pw_below_drewN | apply below_drew1) | exact HB.out)) hb)
       clear HB
       have HO471:=n0_
       have HB:=n1_
       clear n0_ n1_
       clear hb ho14
       refine hK.out _ _ trivial (fun hHeld=>?_)
       clear hK K
       refine norm_ (a':=?_) ?_ ?_
       rotate_left
       ·show Act.put _ (some 5) _ = _
        simp only [Act.put,List.setIfInBounds_toArray,List.set_cons_zero,List.set_cons_succ,i64_w,i32_w]
        rfl
       refine one_ (i:=4) (N:=some 9) #[true,true,true,true,true,true,true,true,true,false,false] rfl rfl (one_of HT_.out (by kernel_rfl)) (by decide) (fun K hK=>?_)
       refine Kd.R_append_rows_step k32 (w0:=w) w.heap.size (by rfl) (.tmp 5) (.tmp 8) 24 32 (.agg #[(.int .i64 0),(.int .i64 0)]) 16 rfl Try.underlying24 info32 rfl (by decide) (by omega) v470 y469 y472 _ _ _ (fun _=>True) (fun _=>False) rfl rfl ?aO ?aR (fun _ _ h=>h) (fun _ h=>h.elim) ?aF ?aB ?aS ?aL ?_
       (case aR=>repeat (first | exact (Kd.C_below HR475.out HB.out) | (with_reducible refine Kd.C_alloc ?_ _) | (with_reducible refine Kd.C_drewN ?_ _) | (with_reducible refine Kd.C_drew ?_)))
       (case aB=>exact (by repeat (first | (with_reducible first | exact HB.out | apply below_alloc | apply pw_below_drewN | apply below_drew1) | exact HB.out)))
       (case aF=>exact (fun _ _=>trivial))
       (case aO=>exact (by (with_reducible repeat (first | apply Kd.R_alloc | apply Kd.R_drewN | apply Kd.R_drew));exact HO471.out))
       (case aS=>exact (below_size (by repeat (first | (with_reducible first | exact HB.out | apply below_alloc | apply pw_below_drewN | apply below_drew1) | exact HB.out))))
       (case aL=>have:=LMc5.out;omega)
       intro v477 w15 ho hb hg hat
       rw [← Ny476.out] at ho
       have n0_:=Aside0.mk (hb)
       have n1_:=Aside0.mk (ho)
       clear HB
       clear HO471
       have HB:=n0_
       have HO478:=n1_
       clear n0_ n1_
       clear ho hb hg hat
       refine hK.out _ _ trivial (fun hHeld=>?_)
       clear hK K
       refine norm_ (a':=?_) ?_ ?_
       rotate_left
       ·show Act.put _ (some 9) _ = _
        simp only [Act.put,List.setIfInBounds_toArray,List.set_cons_zero,List.set_cons_succ,i64_w,i32_w]
        rfl
       refine one_ (i:=9) (N:=some 14) #[true,true,true,true,true,true,true,true,true,true,false] rfl rfl (one_of HT_.out (by kernel_rfl)) (by decide) (fun K hK=>?_)
       refine Kd.R_append_rows_step k32 (w0:=w) w.heap.size (by rfl) (.tmp 9) (.tmp 13) 24 32 (.agg #[(.int .i64 0),(.int .i64 0)]) 16 rfl Try.underlying24 info32 rfl (by decide) (by omega) v477 y476 y479 _ _ _ (fun _=>True) (fun _=>False) rfl rfl ?aO ?aR (fun _ _ h=>h) (fun _ h=>h.elim) ?aF ?aB ?aS ?aL ?_
       (case aR=>repeat (first | exact (Kd.C_below HR482.out HB.out) | (with_reducible refine Kd.C_alloc ?_ _) | (with_reducible refine Kd.C_drewN ?_ _) | (with_reducible refine Kd.C_drew ?_)))
       (case aB=>exact (by repeat (first | (with_reducible first | exact HB.out | apply below_alloc | apply pw_below_drewN | apply below_drew1) | exact HB.out)))
       (case aF=>exact (fun _ _=>trivial))
       (case aO=>exact (by (with_reducible repeat (first | apply Kd.R_alloc | apply Kd.R_drewN | apply Kd.R_drew));exact HO478.out))
       (case aS=>exact (below_size (by repeat (first | (with_reducible first | exact HB.out | apply below_alloc | apply pw_below_drewN | apply below_drew1) | exact HB.out))))
       (case aL=>have:=LMc9.out;omega)
       intro v484 w16 ho hb hg hat
       rw [← Ny483.out] at ho
       have n0_:=Aside0.mk (hb)
       have n1_:=Aside0.mk (ho)
       clear HB
       clear HO478
       have HB:=n0_
       have HO485:=n1_
       clear n0_ n1_
       clear ho hb hg hat
       refine hK.out _ _ trivial (fun hHeld=>?_)
       clear hK K
       refine norm_ (a':=?_) ?_ ?_
       rotate_left
       ·show Act.put _ (some 14) _ = _
        simp only [Act.put,List.setIfInBounds_toArray,List.set_cons_zero,List.set_cons_succ,i64_w,i32_w]
        rfl
       refine pure_ (i:=10) (N:=some 4) (v:=?_) (a':=?_) #[true,true,true,true,true,true,true,true,true,true,true] rfl rfl (any_of HT_.out (by kernel_rfl)) (fun _ _ _ h=>h) (Or.inl ⟨by rfl,?_⟩) ?_ ?_
       rotate_left;·intro w';go_simp;with_reducible rfl
       rotate_left;·simp only [Act.put,List.setIfInBounds_toArray,List.set_cons_zero,List.set_cons_succ,i64_w,i32_w];rfl
       refine done_ (done_of HT_.out (by kernel_rfl)) ?_
       try go_wp2
       go_ret
       exact ⟨_,by first | rfl | (simp [errW_none,errW_some] <;> rfl) | (simp only [← hji6];first | rfl | (simp [errW_none,errW_some] <;> rfl)) | (simp [*,errW_none,errW_some] <;> rfl),by (with_reducible repeat (first | apply Kd.R_alloc | apply Kd.R_drewN | apply Kd.R_drew));exact HO485.out,by repeat (first | (with_reducible first | exact HB.out | apply below_alloc | apply pw_below_drewN | apply below_drew1) | exact HB.out)⟩
      ·rw [if_neg c9] at H
       exact absurd H (by simp)
     ·rw [if_neg c8] at H
      exact absurd H (by simp)
    ·rw [if_neg c7] at H
     exact absurd H (by simp)
   ·rw [if_neg c5] at H
    exact absurd H (by simp)
  ·rw [if_neg c4] at H
   exact absurd H (by simp)
 ·rw [if_neg c3] at H
  exact absurd H (by simp)
def spec_l19Of.l0:Nat → List (S32) → Int → List (S32) → Int → Option ((List (S32)))
 | 0,_,_,_,_=>none
 | k + 1,x0,x1,x5,x6=>if x6 < (x0.length:Int) then (if 0 ≤ x6 then (if ((rd_T32 x0 x6).f0) = x1 then (if x5.length < 8796093022208 then (spec_l19Of.l0 k x0 x1 (x5 ++ [(⟨(rd_T32 x0 x6).f0,(rd_T32 x0 x6).f1⟩:S32)]) (wrap64 (x6 + 1))) else (none)) else (if ((rd_T32 x0 x6).f1) = x1 then (if x5.length < 8796093022208 then (spec_l19Of.l0 k x0 x1 (x5 ++ [(⟨(rd_T32 x0 x6).f0,(rd_T32 x0 x6).f1⟩:S32)]) (wrap64 (x6 + 1))) else (none)) else (spec_l19Of.l0 k x0 x1 x5 (wrap64 (x6 + 1))))) else (none)) else (some x5)
def spec_l19Of.f (k:Nat) (l0:List (S32)) (a1:Int):Option ((List (S32))):=spec_l19Of.l0 k l0 a1 (([]:List (S32))) 0
theorem spec_l19Of.mono_l:∀ k,(∀ y0 y1 y2 y3,LeO (spec_l19Of.l0 k y0 y1 y2 y3) (spec_l19Of.l0 (k + 1) y0 y1 y2 y3))
 | 0=>fun _ _ _ _ r h=>by simp [spec_l19Of.l0] at h
 | k + 1=>by
  have ih0:=spec_l19Of.mono_l k
  ·intro y0 y1 y2 y3
   unfold spec_l19Of.l0
   repeat' first
   | (with_reducible exact ih0 _ _ _ _)
   | (with_reducible exact LeO.refl _)
   | (with_reducible exact LeO.none _)
   | (with_reducible refine LeO.ite ?_ ?_)
   | (with_reducible refine LeO.bind ?_ (fun _=>?_))
   | exact ih0 _ _ _ _
   | exact LeO.none _
   | refine LeO.ite ?_ ?_
   | refine LeO.bind ?_ (fun _=>?_)
theorem spec_l19Of.mono:∀ a0 a1 k,LeO (spec_l19Of.f k a0 a1) (spec_l19Of.f (k + 1) a0 a1):=by
 intro a0 a1 k
 have ih0:=spec_l19Of.mono_l k
 unfold spec_l19Of.f
 repeat' first
   | (with_reducible exact ih0 _ _ _ _)
   | (with_reducible exact LeO.refl _)
   | (with_reducible exact LeO.none _)
   | (with_reducible refine LeO.ite ?_ ?_)
   | (with_reducible refine LeO.bind ?_ (fun _=>?_))
   | exact ih0 _ _ _ _
   | exact LeO.none _
   | refine LeO.ite ?_ ?_
   | refine LeO.bind ?_ (fun _=>?_)
set_option maxHeartbeats 8000000 in
set_option maxRecDepth 100000 in
theorem spec_l19Of.calls (k:Nat) (A0:Option Addr) (c0:Nat) (l0:List (S32)) (a1:Int) (r:List (S32)) (w:World) (hr0:Kd.C k32 w A0 l0.length l0) (hc0:l0.length ≤ c0) (h:spec_l19Of.f k l0 a1 = some r) :
  Calls Try.prog 74 #[.slice A0 l0.length c0,.int .i64 a1] w fun e w'=>∃ v0_:Value,e = .returned (v0_)∧Kd.R k32 32 w' w.heap.size (fun _=>True) v0_ r∧Below w.heap.size w w':=by
 have hu32:=Try.underlying32
 have HR0:=Aside0.mk hr0
 have HC0:=Aside0.mk hc0
 clear hr0 hc0
 have HB:=Aside0.mk (Below.refl w.heap.size w)
 have H:(spec_l19Of.l0 k l0 a1 (([]:List (S32))) 0) = some r:=h
 clear h
 obtain ⟨y552,hy552⟩:∃ y_:List (S32),y_ = (([]:List (S32))):=⟨_,rfl⟩
 replace H:(spec_l19Of.l0 k l0 a1 y552 0) = some r:=by first | (rw [hy552];with_reducible exact H) | (have H2_:=(Option.bind_some _ _).symm.trans H;rw [hy552];with_reducible exact H2_) | (have H2_:=(Option.bind_some _ _).symm.trans H;with_reducible exact H2_) | with_reducible exact H | (rw [hy552];exact H) | exact H
 have Ny552:=Aside0.mk hy552
 clear hy552
 have H':=Aside0.mk H
 clear H
 go_enter Try.func74,Try.ntmps74
 go_wp2_with (first | ((with_reducible refine gate_dst (N:=7) rfl ?_);refine Kd.R_lit k32 _ 32 ?hg (N:=7) ?hd (xs:=([]:List (S32))) (inner:=[]) (ok:=fun _=>True) (okp:=fun _=>True) ?hr ?hp (fun _ hk=>hk) trivial (Below.refl _ _) (Nat.le_refl _) (by simp) ?_;(case hd=>rfl);(case hg=>rfl);(case hr=>first | (go_simp;done) | (go_simp;rfl));(case hp=>exact (Reps.none _ _));intro v553 w3 ho4 hb hg_ hnew_;clear hg_ hnew_;(first | rw [← Ny552.out] at ho4 | (simp only [Int.reduceToNat] at ho4;rw [← Ny552.out] at ho4));have n0_:=Aside0.mk (Kd.R_lower ho4 (below_size (by repeat (first | (with_reducible first | exact HB.out | apply below_alloc | apply pw_below_drewN | apply below_drew1) | exact HB.out))));have n1_:=Aside0.mk (below_step (by repeat (first | (with_reducible first | exact HB.out | apply below_alloc | apply pw_below_drewN | apply below_drew1) | exact HB.out)) hb);clear HB;have HO554:=n0_;have HB:=n1_;clear n0_ n1_;clear hb ho4))
 go_loopg [5,6] k (fun kq v5 v6 w'=>∃ (x5_1:List (S32)) (x6_1:Int),v6 = .int .i64 x6_1∧Aside0 (spec_l19Of.l0 kq l0 a1 x5_1 x6_1 = some r)∧Aside0 (kq ≤ k)∧Aside0 (Kd.R k32 32 w' w.heap.size (fun _=>True) v5 x5_1)∧Aside0 (Below w.heap.size w w'))
 case atStart=>exact ⟨(y552),(0),(by first | rfl | (simp;done) | (simp [*];done)),H',⟨Nat.le_refl _⟩,⟨by (with_reducible repeat (first | apply Kd.R_alloc | apply Kd.R_drewN | apply Kd.R_drew));exact HO554.out⟩,⟨by repeat (first | (with_reducible first | exact HB.out | apply below_alloc | apply pw_below_drewN | apply below_drew1) | exact HB.out)⟩⟩
 case round =>
  clear H'
  try clear p2
  obtain ⟨x5_1,x6_1,rfl,HA,HK1,HO_5,HB⟩:=hrel
  cases gk with
  | zero=>exact absurd HA.out (by simp [spec_l19Of.l0])
  | succ k1 =>
   have H:=HA.out
   clear HA
   simp only [spec_l19Of.l0] at H
   by_cases c5:x6_1 < (l0.length:Int)
   ·rw [if_pos c5] at H
    have c5b0:decide (x6_1 < (l0.length:Int)) = true:=decide_eq_true c5
    clear c5
    by_cases c6:0 ≤ x6_1
    ·rw [if_pos c6] at H
     have c6b0:decide (0 ≤ x6_1) = true:=decide_eq_true c6
     clear c6
     by_cases c7:((rd_T32 l0 x6_1).f0) = a1
     ·rw [if_pos c7] at H
      have c7b0:(((rd_T32 l0 x6_1).f0) == a1) = true:=beq_iff_eq.mpr c7
      have c7b1:(((rd_T32 l0 x6_1).f0) != a1) = false:=bne_eq_false_iff_eq.mpr c7
      clear c7
      by_cases c8:x5_1.length < 8796093022208
      ·rw [if_pos c8] at H
       have LMc8:=Aside0.mk c8
       clear c8
       obtain ⟨y557,hy557⟩:∃ y_:List (S32),y_ = (x5_1 ++ [(⟨(rd_T32 l0 x6_1).f0,(rd_T32 l0 x6_1).f1⟩:S32)]):=⟨_,rfl⟩
       replace H:(spec_l19Of.l0 k1 l0 a1 y557 (wrap64 (x6_1 + 1))) = some r:=by first | (rw [hy557];with_reducible exact H) | (have H2_:=(Option.bind_some _ _).symm.trans H;rw [hy557];with_reducible exact H2_) | (have H2_:=(Option.bind_some _ _).symm.trans H;with_reducible exact H2_) | with_reducible exact H | (rw [hy557];exact H) | exact H
       have Ny557:=Aside0.mk hy557
       clear hy557
       have H':=Aside0.mk H
       clear H
       have p555:0 ≤ (x6_1:Int):=of_decide_eq_true (by first | (with_reducible assumption) | assumption)
       have q555:x6_1 < (l0.length:Int):=of_decide_eq_true (by first | (with_reducible assumption) | assumption)
       obtain ⟨ad555,e555,hx555_0,hx555_1⟩:=at_T32 HR0.out x6_1 p555 q555
       cases e555
       replace hx555_0:=(HB.out.cell (World.block_lt_of_cell? w _ hx555_0)).trans hx555_0
       replace hx555_1:=(HB.out.cell (World.block_lt_of_cell? w _ hx555_1)).trans hx555_1
       replace p555:=eq_true p555
       replace q555:=eq_true q555
       have p556:0 ≤ (x6_1:Int):=of_decide_eq_true (by first | (with_reducible assumption) | assumption)
       have q556:x6_1 < (l0.length:Int):=of_decide_eq_true (by first | (with_reducible assumption) | assumption)
       obtain ⟨ad556,e556,hx556_0,hx556_1⟩:=at_T32 HR0.out x6_1 p556 q556
       obtain rfl:ad555 = ad556:=(by injection e556)
       replace hx556_0:=(HB.out.cell (World.block_lt_of_cell? w _ hx556_0)).trans hx556_0
       replace hx556_1:=(HB.out.cell (World.block_lt_of_cell? w _ hx556_1)).trans hx556_1
       replace p556:=eq_true p556
       replace q556:=eq_true q556
       go_wp2_with (first | ((with_reducible refine gate_builtin (b:=.append) (xs:=#[.tmp 30,.tmp 35]) rfl ?_);at_builtin;refine Kd.R_append k32 (w0:=w) w.heap.size rfl (.tmp 30) (.tmp 35) 24 32 (.agg #[(.int .i64 0),(.int .i64 0)]) 16 rfl Try.underlying24 info32 rfl (by decide) (by omega) u5 x5_1 (⟨(rd_T32 l0 x6_1).f0,(rd_T32 l0 x6_1).f1⟩:S32) [.int .i64 ((rd_T32 l0 x6_1).f0),.int .i64 ((rd_T32 l0 x6_1).f1)] (fun _=>True) (fun _=>False) rfl rfl ?aP (fun _ hk=>hk.elim) ?aF ?aO ?aB ?aS ?aL ?_;(case aP=>exact k32_mkM _ _ _ (⟨(rd_T32 l0 x6_1).f0,(rd_T32 l0 x6_1).f1⟩:S32));(case aB=>exact (by repeat (first | (with_reducible first | exact HB.out | apply below_alloc | apply pw_below_drewN | apply below_drew1) | exact HB.out)));(case aF=>exact (fun _ _=>trivial));(case aO=>exact (by (with_reducible repeat (first | apply Kd.R_alloc | apply Kd.R_drewN | apply Kd.R_drew));exact HO_5.out));(case aS=>exact (below_size (by repeat (first | (with_reducible first | exact HB.out | apply below_alloc | apply pw_below_drewN | apply below_drew1) | exact HB.out))));(case aL=>have:=LMc8.out;omega);intro v558 w9 ho hb hg hat;rw [← Ny557.out] at ho;have n0_:=Aside0.mk (hb);have n1_:=Aside0.mk (ho);clear HB;clear HO_5;have HB:=n0_;have HO559:=n1_;clear n0_ n1_;clear ho hb hg hat))
       go_roundg k1
       case measure=>have:=HK1.out;omega
       case rel=>exact ⟨(y557),(wrap64 (x6_1 + 1)),(by first | rfl | (simp;done) | (simp [*];done)),H',⟨by have:=HK1.out;omega⟩,⟨by (with_reducible repeat (first | apply Kd.R_alloc | apply Kd.R_drewN | apply Kd.R_drew));exact HO559.out⟩,⟨by repeat (first | (with_reducible first | exact HB.out | apply below_alloc | apply pw_below_drewN | apply below_drew1) | exact HB.out)⟩⟩
      ·rw [if_neg c8] at H
       exact absurd H (by simp)
     ·rw [if_neg c7] at H
      have c7b0:(((rd_T32 l0 x6_1).f0) == a1) = false:=beq_eq_false_iff_ne.mpr c7
      have c7b1:(((rd_T32 l0 x6_1).f0) != a1) = true:=bne_iff_ne.mpr c7
      by_cases c10:((rd_T32 l0 x6_1).f1) = a1
      ·rw [if_pos c10] at H
       have c10b0:(((rd_T32 l0 x6_1).f1) == a1) = true:=beq_iff_eq.mpr c10
       have c10b1:(((rd_T32 l0 x6_1).f1) != a1) = false:=bne_eq_false_iff_eq.mpr c10
       clear c10
       by_cases c11:x5_1.length < 8796093022208
       ·rw [if_pos c11] at H
        have LMc11:=Aside0.mk c11
        clear c11
        obtain ⟨y562,hy562⟩:∃ y_:List (S32),y_ = (x5_1 ++ [(⟨(rd_T32 l0 x6_1).f0,(rd_T32 l0 x6_1).f1⟩:S32)]):=⟨_,rfl⟩
        replace H:(spec_l19Of.l0 k1 l0 a1 y562 (wrap64 (x6_1 + 1))) = some r:=by first | (rw [hy562];with_reducible exact H) | (have H2_:=(Option.bind_some _ _).symm.trans H;rw [hy562];with_reducible exact H2_) | (have H2_:=(Option.bind_some _ _).symm.trans H;with_reducible exact H2_) | with_reducible exact H | (rw [hy562];exact H) | exact H
        have Ny562:=Aside0.mk hy562
        clear hy562
        have H':=Aside0.mk H
        clear H
        have p555:0 ≤ (x6_1:Int):=of_decide_eq_true (by first | (with_reducible assumption) | assumption)
        have q555:x6_1 < (l0.length:Int):=of_decide_eq_true (by first | (with_reducible assumption) | assumption)
        obtain ⟨ad555,e555,hx555_0,hx555_1⟩:=at_T32 HR0.out x6_1 p555 q555
        cases e555
        replace hx555_0:=(HB.out.cell (World.block_lt_of_cell? w _ hx555_0)).trans hx555_0
        replace hx555_1:=(HB.out.cell (World.block_lt_of_cell? w _ hx555_1)).trans hx555_1
        replace p555:=eq_true p555
        replace q555:=eq_true q555
        have p560:0 ≤ (x6_1:Int):=of_decide_eq_true (by first | (with_reducible assumption) | assumption)
        have q560:x6_1 < (l0.length:Int):=of_decide_eq_true (by first | (with_reducible assumption) | assumption)
        obtain ⟨ad560,e560,hx560_0,hx560_1⟩:=at_T32 HR0.out x6_1 p560 q560
        obtain rfl:ad555 = ad560:=(by injection e560)
        replace hx560_0:=(HB.out.cell (World.block_lt_of_cell? w _ hx560_0)).trans hx560_0
        replace hx560_1:=(HB.out.cell (World.block_lt_of_cell? w _ hx560_1)).trans hx560_1
        replace p560:=eq_true p560
        replace q560:=eq_true q560
        have p561:0 ≤ (x6_1:Int):=of_decide_eq_true (by first | (with_reducible assumption) | assumption)
        have q561:x6_1 < (l0.length:Int):=of_decide_eq_true (by first | (with_reducible assumption) | assumption)
        obtain ⟨ad561,e561,hx561_0,hx561_1⟩:=at_T32 HR0.out x6_1 p561 q561
        obtain rfl:ad555 = ad561:=(by injection e561)
        replace hx561_0:=(HB.out.cell (World.block_lt_of_cell? w _ hx561_0)).trans hx561_0
        replace hx561_1:=(HB.out.cell (World.block_lt_of_cell? w _ hx561_1)).trans hx561_1
        replace p561:=eq_true p561
        replace q561:=eq_true q561
        go_wp2_with (first | ((with_reducible refine gate_builtin (b:=.append) (xs:=#[.tmp 30,.tmp 35]) rfl ?_);at_builtin;refine Kd.R_append k32 (w0:=w) w.heap.size rfl (.tmp 30) (.tmp 35) 24 32 (.agg #[(.int .i64 0),(.int .i64 0)]) 16 rfl Try.underlying24 info32 rfl (by decide) (by omega) u5 x5_1 (⟨(rd_T32 l0 x6_1).f0,(rd_T32 l0 x6_1).f1⟩:S32) [.int .i64 ((rd_T32 l0 x6_1).f0),.int .i64 ((rd_T32 l0 x6_1).f1)] (fun _=>True) (fun _=>False) rfl rfl ?aP (fun _ hk=>hk.elim) ?aF ?aO ?aB ?aS ?aL ?_;(case aP=>exact k32_mkM _ _ _ (⟨(rd_T32 l0 x6_1).f0,(rd_T32 l0 x6_1).f1⟩:S32));(case aB=>exact (by repeat (first | (with_reducible first | exact HB.out | apply below_alloc | apply pw_below_drewN | apply below_drew1) | exact HB.out)));(case aF=>exact (fun _ _=>trivial));(case aO=>exact (by (with_reducible repeat (first | apply Kd.R_alloc | apply Kd.R_drewN | apply Kd.R_drew));exact HO_5.out));(case aS=>exact (below_size (by repeat (first | (with_reducible first | exact HB.out | apply below_alloc | apply pw_below_drewN | apply below_drew1) | exact HB.out))));(case aL=>have:=LMc11.out;omega);intro v563 w12 ho hb hg hat;rw [← Ny562.out] at ho;have n0_:=Aside0.mk (hb);have n1_:=Aside0.mk (ho);clear HB;clear HO_5;have HB:=n0_;have HO564:=n1_;clear n0_ n1_;clear ho hb hg hat))
        go_roundg k1
        case measure=>have:=HK1.out;omega
        case rel=>exact ⟨(y562),(wrap64 (x6_1 + 1)),(by first | rfl | (simp;done) | (simp [*];done)),H',⟨by have:=HK1.out;omega⟩,⟨by (with_reducible repeat (first | apply Kd.R_alloc | apply Kd.R_drewN | apply Kd.R_drew));exact HO564.out⟩,⟨by repeat (first | (with_reducible first | exact HB.out | apply below_alloc | apply pw_below_drewN | apply below_drew1) | exact HB.out)⟩⟩
       ·rw [if_neg c11] at H
        exact absurd H (by simp)
      ·rw [if_neg c10] at H
       have c10b0:(((rd_T32 l0 x6_1).f1) == a1) = false:=beq_eq_false_iff_ne.mpr c10
       have c10b1:(((rd_T32 l0 x6_1).f1) != a1) = true:=bne_iff_ne.mpr c10
       have H':=Aside0.mk H
       clear H
       have p555:0 ≤ (x6_1:Int):=of_decide_eq_true (by first | (with_reducible assumption) | assumption)
       have q555:x6_1 < (l0.length:Int):=of_decide_eq_true (by first | (with_reducible assumption) | assumption)
       obtain ⟨ad555,e555,hx555_0,hx555_1⟩:=at_T32 HR0.out x6_1 p555 q555
       cases e555
       replace hx555_0:=(HB.out.cell (World.block_lt_of_cell? w _ hx555_0)).trans hx555_0
       replace hx555_1:=(HB.out.cell (World.block_lt_of_cell? w _ hx555_1)).trans hx555_1
       replace p555:=eq_true p555
       replace q555:=eq_true q555
       have p560:0 ≤ (x6_1:Int):=of_decide_eq_true (by first | (with_reducible assumption) | assumption)
       have q560:x6_1 < (l0.length:Int):=of_decide_eq_true (by first | (with_reducible assumption) | assumption)
       obtain ⟨ad560,e560,hx560_0,hx560_1⟩:=at_T32 HR0.out x6_1 p560 q560
       obtain rfl:ad555 = ad560:=(by injection e560)
       replace hx560_0:=(HB.out.cell (World.block_lt_of_cell? w _ hx560_0)).trans hx560_0
       replace hx560_1:=(HB.out.cell (World.block_lt_of_cell? w _ hx560_1)).trans hx560_1
       replace p560:=eq_true p560
       replace q560:=eq_true q560
       go_wp2
       go_roundg k1
       case measure=>have:=HK1.out;omega
       case rel=>exact ⟨(x5_1),(wrap64 (x6_1 + 1)),(by first | rfl | (simp;done) | (simp [*];done)),H',⟨by have:=HK1.out;omega⟩,⟨by (with_reducible repeat (first | apply Kd.R_alloc | apply Kd.R_drewN | apply Kd.R_drew));exact HO_5.out⟩,⟨by repeat (first | (with_reducible first | exact HB.out | apply below_alloc | apply pw_below_drewN | apply below_drew1) | exact HB.out)⟩⟩
    ·rw [if_neg c6] at H
     exact absurd H (by simp)
   ·rw [if_neg c5] at H
    have c5b0:decide (x6_1 < (l0.length:Int)) = false:=decide_eq_false c5
    clear c5
    obtain rfl:=Option.some.inj H
    go_wp2
    go_ret
    exact ⟨_,by first | rfl | (simp [errW_none,errW_some] <;> rfl) | (simp [*,errW_none,errW_some] <;> rfl),by (with_reducible repeat (first | apply Kd.R_alloc | apply Kd.R_drewN | apply Kd.R_drew));exact HO_5.out,by repeat (first | (with_reducible first | exact HB.out | apply below_alloc | apply pw_below_drewN | apply below_drew1) | exact HB.out)⟩
def impl_Event_79.l0:Nat → List (S32) → List (S32) → Int → Int → Option (Bool)
 | 0,_,_,_,_=>none
 | k + 1,x0,x1,x12,x13=>if x13 < x12 then (if 0 ≤ x13 then (if x13 < (x0.length:Int) then (if x13 < (x1.length:Int) then (if (!(((rd_T32 x0 x13).f0) == ((rd_T32 x1 x13).f0)) || (!(((rd_T32 x0 x13).f1) == ((rd_T32 x1 x13).f1)))) = true then (some false) else (impl_Event_79.l0 k x0 x1 x12 (wrap64 (x13 + 1)))) else (none)) else (none)) else (none)) else (some true)
def impl_Event_79.f (k:Nat) (l0:List (S32)) (l1:List (S32)):Option (Bool):=if (l0.length:Int) = (l1.length:Int) then (impl_Event_79.l0 k l0 l1 (l0.length:Int) 0) else (some false)
theorem impl_Event_79.mono_l:∀ k,(∀ y0 y1 y2 y3,LeO (impl_Event_79.l0 k y0 y1 y2 y3) (impl_Event_79.l0 (k + 1) y0 y1 y2 y3))
 | 0=>fun _ _ _ _ r h=>by simp [impl_Event_79.l0] at h
 | k + 1=>by
  have ih0:=impl_Event_79.mono_l k
  ·intro y0 y1 y2 y3
   unfold impl_Event_79.l0
   repeat' first
   | (with_reducible exact ih0 _ _ _ _)
   | (with_reducible exact LeO.refl _)
   | (with_reducible exact LeO.none _)
   | (with_reducible refine LeO.ite ?_ ?_)
   | (with_reducible refine LeO.bind ?_ (fun _=>?_))
   | exact ih0 _ _ _ _
   | exact LeO.none _
   | refine LeO.ite ?_ ?_
   | refine LeO.bind ?_ (fun _=>?_)
theorem impl_Event_79.mono:∀ a0 a1 k,LeO (impl_Event_79.f k a0 a1) (impl_Event_79.f (k + 1) a0 a1):=by
 intro a0 a1 k
 have ih0:=impl_Event_79.mono_l k
 unfold impl_Event_79.f
 repeat' first
   | (with_reducible exact ih0 _ _ _ _)
   | (with_reducible exact LeO.refl _)
   | (with_reducible exact LeO.none _)
   | (with_reducible refine LeO.ite ?_ ?_)
   | (with_reducible refine LeO.bind ?_ (fun _=>?_))
   | exact ih0 _ _ _ _
   | exact LeO.none _
   | refine LeO.ite ?_ ?_
   | refine LeO.bind ?_ (fun _=>?_)
set_option maxHeartbeats 8000000 in
set_option maxRecDepth 100000 in
theorem impl_Event_79.calls (k:Nat) (A0:Option Addr) (c0:Nat) (l0:List (S32)) (A1:Option Addr) (c1:Nat) (l1:List (S32)) (r:Bool) (w:World) (hr0:Kd.C k32 w A0 l0.length l0) (hc0:l0.length ≤ c0) (hr1:Kd.C k32 w A1 l1.length l1) (hc1:l1.length ≤ c1) (h:impl_Event_79.f k l0 l1 = some r) :
  Calls Try.prog 79 #[.slice A0 l0.length c0,.slice A1 l1.length c1] w fun e w'=>e = .returned (.bool r)∧Drawn0 w w':=by
 have hu32:=Try.underlying32
 have HR0:=Aside0.mk hr0
 have HC0:=Aside0.mk hc0
 clear hr0 hc0
 have HR1:=Aside0.mk hr1
 have HC1:=Aside0.mk hc1
 clear hr1 hc1
 have H:(if (l0.length:Int) = (l1.length:Int) then (impl_Event_79.l0 k l0 l1 (l0.length:Int) 0) else (some false)) = some r:=h
 clear h
 by_cases c3:(l0.length:Int) = (l1.length:Int)
 ·rw [if_pos c3] at H
  have c3b0:((l0.length:Int) == (l1.length:Int)) = true:=beq_iff_eq.mpr c3
  have c3b1:((l0.length:Int) != (l1.length:Int)) = false:=bne_eq_false_iff_eq.mpr c3
  have c3b2:(l0.length == l1.length) = true:=by first | simpa using c3 | (simp at c3 ⊢;omega)
  clear c3
  have H':=Aside0.mk H
  clear H
  go_enter Try.func79,Try.ntmps79
  go_wp2
  repeat (go_quiet (fail);try go_wp2)
  go_loopg [13] k (fun kq v13 w'=>∃ (x13_1:Int),v13 = .int .i64 x13_1∧Aside0 (impl_Event_79.l0 kq l0 l1 (l0.length:Int) x13_1 = some r)∧Aside0 (kq ≤ k)∧Drawn0 w w')
  case atStart=>exact ⟨(0),(by first | rfl | (simp;done) | (simp [*];done)),H',⟨Nat.le_refl _⟩,by repeat (first | exact Drawn0.refl _ | apply Drawn0.step)⟩
  case round =>
   clear H'
   try clear c1
   try clear p2
   try clear c3
   try clear c3b0
   try clear c3b1
   try clear c3b2
   obtain ⟨x13_1,rfl,HA,HK1,⟨m1,rfl⟩⟩:=hrel
   cases gk with
   | zero=>exact absurd HA.out (by simp [impl_Event_79.l0])
   | succ k1 =>
    have H:=HA.out
    clear HA
    simp only [impl_Event_79.l0] at H
    by_cases c4:x13_1 < (l0.length:Int)
    ·rw [if_pos c4] at H
     have c4b0:decide (x13_1 < (l0.length:Int)) = true:=decide_eq_true c4
     clear c4
     by_cases c5:0 ≤ x13_1
     ·rw [if_pos c5] at H
      have c5b0:decide (0 ≤ x13_1) = true:=decide_eq_true c5
      clear c5
      by_cases c6:x13_1 < (l0.length:Int)
      ·rw [if_pos c6] at H
       have c6b0:decide (x13_1 < (l0.length:Int)) = true:=decide_eq_true c6
       clear c6
       by_cases c7:x13_1 < (l1.length:Int)
       ·rw [if_pos c7] at H
        have c7b0:decide (x13_1 < (l1.length:Int)) = true:=decide_eq_true c7
        clear c7
        by_cases c8:(!(((rd_T32 l0 x13_1).f0) == ((rd_T32 l1 x13_1).f0)) || (!(((rd_T32 l0 x13_1).f1) == ((rd_T32 l1 x13_1).f1)))) = true
        ·rw [if_pos c8] at H
         have c8b0:(!(((rd_T32 l0 x13_1).f0) == ((rd_T32 l1 x13_1).f0)) || (!(((rd_T32 l0 x13_1).f1) == ((rd_T32 l1 x13_1).f1)))) = true:=c8
         clear c8
         obtain rfl:=Option.some.inj H
         have p575:0 ≤ (x13_1:Int):=of_decide_eq_true (by first | (with_reducible assumption) | assumption)
         have q575:x13_1 < (l0.length:Int):=of_decide_eq_true (by first | (with_reducible assumption) | assumption)
         obtain ⟨ad575,e575,hx575_0,hx575_1⟩:=at_T32 HR0.out x13_1 p575 q575
         cases e575
         replace p575:=eq_true p575
         replace q575:=eq_true q575
         have p576:0 ≤ (x13_1:Int):=of_decide_eq_true (by first | (with_reducible assumption) | assumption)
         have q576:x13_1 < (l1.length:Int):=of_decide_eq_true (by first | (with_reducible assumption) | assumption)
         obtain ⟨ad576,e576,hx576_0,hx576_1⟩:=at_T32 HR1.out x13_1 p576 q576
         cases e576
         replace p576:=eq_true p576
         replace q576:=eq_true q576
         go_wp2
         repeat (go_quiet (fail);try go_wp2)
         go_ret
         exact ⟨by first | rfl | (simp;done) | (simp [*];done),by repeat (first | exact Drawn0.refl _ | apply Drawn0.step)⟩
        ·rw [if_neg c8] at H
         have c8b0:(!(((rd_T32 l0 x13_1).f0) == ((rd_T32 l1 x13_1).f0)) || (!(((rd_T32 l0 x13_1).f1) == ((rd_T32 l1 x13_1).f1)))) = false:=by simpa using c8
         clear c8
         have H':=Aside0.mk H
         clear H
         have p575:0 ≤ (x13_1:Int):=of_decide_eq_true (by first | (with_reducible assumption) | assumption)
         have q575:x13_1 < (l0.length:Int):=of_decide_eq_true (by first | (with_reducible assumption) | assumption)
         obtain ⟨ad575,e575,hx575_0,hx575_1⟩:=at_T32 HR0.out x13_1 p575 q575
         cases e575
         replace p575:=eq_true p575
         replace q575:=eq_true q575
         have p576:0 ≤ (x13_1:Int):=of_decide_eq_true (by first | (with_reducible assumption) | assumption)
         have q576:x13_1 < (l1.length:Int):=of_decide_eq_true (by first | (with_reducible assumption) | assumption)
         obtain ⟨ad576,e576,hx576_0,hx576_1⟩:=at_T32 HR1.out x13_1 p576 q576
         cases e576
         replace p576:=eq_true p576
         replace q576:=eq_true q576
         go_wp2
         repeat (go_quiet (fail);try go_wp2)
         go_roundg k1
         case measure=>have:=HK1.out;omega
         case rel=>exact ⟨(wrap64 (x13_1 + 1)),(by first | rfl | (simp;done) | (simp [*];done)),H',⟨by have:=HK1.out;omega⟩,by repeat (first | exact Drawn0.refl _ | apply Drawn0.step)⟩
       ·rw [if_neg c7] at H
        exact absurd H (by simp)
      ·rw [if_neg c6] at H
       exact absurd H (by simp)
     ·rw [if_neg c5] at H
      exact absurd H (by simp)
    ·rw [if_neg c4] at H
     have c4b0:decide (x13_1 < (l0.length:Int)) = false:=decide_eq_false c4
     clear c4
     obtain rfl:=Option.some.inj H
     go_wp2
     repeat (go_quiet (fail);try go_wp2)
     go_ret
     exact ⟨by first | rfl | (simp;done) | (simp [*];done),by repeat (first | exact Drawn0.refl _ | apply Drawn0.step)⟩
 ·rw [if_neg c3] at H
  have c3b0:((l0.length:Int) == (l1.length:Int)) = false:=beq_eq_false_iff_ne.mpr c3
  have c3b1:((l0.length:Int) != (l1.length:Int)) = true:=bne_iff_ne.mpr c3
  have c3b2:(l0.length == l1.length) = false:=by first | simpa using c3 | (simp at c3 ⊢;omega)
  obtain rfl:=Option.some.inj H
  go_enter Try.func79,Try.ntmps79
  go_wp2
  repeat (go_quiet (fail);try go_wp2)
  go_ret
  exact ⟨by first | rfl | (simp;done) | (simp [*];done),by repeat (first | exact Drawn0.refl _ | apply Drawn0.step)⟩
def impl_has.f (a0_0:Int) (a0_1:Int) (a1:Int):Option (Bool):=if a0_0 = a1 then (some true) else (some (a0_1 == a1))
set_option maxHeartbeats 8000000 in
set_option maxRecDepth 100000 in
theorem impl_has.calls (a0_0:Int) (a0_1:Int) (a1:Int) (r:Bool) (w:World) (h:impl_has.f a0_0 a0_1 a1 = some r) :
  Calls Try.prog 78 #[.agg #[.int .i64 a0_0,.int .i64 a0_1],.int .i64 a1] w fun e w'=>e = .returned (.bool r)∧Below w.heap.size w w':=by
 have hu32:=Try.underlying32
 have HB:=Aside0.mk (Below.refl w.heap.size w)
 have H:(if a0_0 = a1 then (some true) else (some (a0_1 == a1))) = some r:=h
 clear h
 by_cases c3:a0_0 = a1
 ·rw [if_pos c3] at H
  have c3b0:(a0_0 == a1) = true:=beq_iff_eq.mpr c3
  have c3b1:(a0_0 != a1) = false:=bne_eq_false_iff_eq.mpr c3
  clear c3
  obtain rfl:=Option.some.inj H
  go_enter Try.func78,Try.ntmps78
  go_wp2_with (first | ((with_reducible refine gate_dst (N:=2) rfl ?_);refine box_event ?hg (N:=2) ?hd (cs:=#[.int .i64 a0_0,.int .i64 a0_1]) (t:=32) ?hr ?_;(case hd=>rfl);(case hg=>rfl);(case hr=>first | (go_simp;done) | (go_simp;rfl));intro gb629 hg w4 hbox hb;have n0_:=Aside0.mk (below_step (by repeat (first | (with_reducible first | exact HB.out | apply below_alloc | apply pw_below_drewN | apply below_drew1) | exact HB.out)) hb);have n1_:=Aside0.mk (hbox);have n2_:=Aside0.mk ((by rw [hg];exact (below_size (by repeat (first | (with_reducible first | exact HB.out | apply below_alloc | apply pw_below_drewN | apply below_drew1) | exact HB.out))):w.heap.size ≤ gb629));have n3_:=Aside0.mk ((by rw [hg];exact (below_size (by repeat (first | (with_reducible first | exact HB.out | apply below_alloc | apply pw_below_drewN | apply below_drew1) | exact HB.out))):w.heap.size ≤ gb629));clear HB;have HB:=n0_;have BK629:=n1_;have GW629:=n2_;have GE629:=n3_;clear n0_ n1_ n2_ n3_;clear hb hbox hg;have hcz5_0:w4.cell? ⟨gb629,0,none⟩ = some (.int .i64 a0_0):=(blk_cell BK629.out 0).trans rfl;have hcz5_1:w4.cell? ⟨gb629,1,none⟩ = some (.int .i64 a0_1):=(blk_cell BK629.out 1).trans rfl;have hfz5_0:=blk_frozen BK629.out 0;have hfz5_1:=blk_frozen BK629.out 1))
  go_ret
  exact ⟨by first | rfl | (simp [errW_none,errW_some] <;> rfl) | (simp [*,errW_none,errW_some] <;> rfl),by repeat (first | (with_reducible first | exact HB.out | apply below_alloc | apply pw_below_drewN | apply below_drew1 | refine below_set ?_ GE629.out) | exact HB.out)⟩
 ·rw [if_neg c3] at H
  have c3b0:(a0_0 == a1) = false:=beq_eq_false_iff_ne.mpr c3
  have c3b1:(a0_0 != a1) = true:=bne_iff_ne.mpr c3
  obtain rfl:=Option.some.inj H
  go_enter Try.func78,Try.ntmps78
  go_wp2_with (first | ((with_reducible refine gate_dst (N:=2) rfl ?_);refine box_event ?hg (N:=2) ?hd (cs:=#[.int .i64 a0_0,.int .i64 a0_1]) (t:=32) ?hr ?_;(case hd=>rfl);(case hg=>rfl);(case hr=>first | (go_simp;done) | (go_simp;rfl));intro gb629 hg w6 hbox hb;have n0_:=Aside0.mk (below_step (by repeat (first | (with_reducible first | exact HB.out | apply below_alloc | apply pw_below_drewN | apply below_drew1) | exact HB.out)) hb);have n1_:=Aside0.mk (hbox);have n2_:=Aside0.mk ((by rw [hg];exact (below_size (by repeat (first | (with_reducible first | exact HB.out | apply below_alloc | apply pw_below_drewN | apply below_drew1) | exact HB.out))):w.heap.size ≤ gb629));have n3_:=Aside0.mk ((by rw [hg];exact (below_size (by repeat (first | (with_reducible first | exact HB.out | apply below_alloc | apply pw_below_drewN | apply below_drew1) | exact HB.out))):w.heap.size ≤ gb629));clear HB;have HB:=n0_;have BK629:=n1_;have GW629:=n2_;have GE629:=n3_;clear n0_ n1_ n2_ n3_;clear hb hbox hg;have hcz7_0:w6.cell? ⟨gb629,0,none⟩ = some (.int .i64 a0_0):=(blk_cell BK629.out 0).trans rfl;have hcz7_1:w6.cell? ⟨gb629,1,none⟩ = some (.int .i64 a0_1):=(blk_cell BK629.out 1).trans rfl;have hfz7_0:=blk_frozen BK629.out 0;have hfz7_1:=blk_frozen BK629.out 1))
  go_ret
  exact ⟨by first | rfl | (simp [errW_none,errW_some] <;> rfl) | (simp [*,errW_none,errW_some] <;> rfl),by repeat (first | (with_reducible first | exact HB.out | apply below_alloc | apply pw_below_drewN | apply below_drew1 | refine below_set ?_ GE629.out) | exact HB.out)⟩
def impl_linked.f (a0_0:Int) (a0_1:Int) (a1_0:Int) (a1_1:Int):Option (Bool):=(impl_has.f a1_0 a1_1 a0_0).bind fun t632=>(if t632 = true then (some true) else (if a0_1 ≥ 0 then ((impl_has.f a1_0 a1_1 a0_1).bind fun t633=>(some t633)) else (some false)))
set_option maxHeartbeats 8000000 in
set_option maxRecDepth 100000 in
theorem impl_linked.calls (a0_0:Int) (a0_1:Int) (a1_0:Int) (a1_1:Int) (r:Bool) (w:World) (h:impl_linked.f a0_0 a0_1 a1_0 a1_1 = some r) :
  Calls Try.prog 68 #[.agg #[.int .i64 a0_0,.int .i64 a0_1],.agg #[.int .i64 a1_0,.int .i64 a1_1]] w fun e w'=>e = .returned (.bool r)∧Below w.heap.size w w':=by
 have hu32:=Try.underlying32
 have HB:=Aside0.mk (Below.refl w.heap.size w)
 have H:((impl_has.f a1_0 a1_1 a0_0).bind fun t632=>(if t632 = true then (some true) else (if a0_1 ≥ 0 then ((impl_has.f a1_0 a1_1 a0_1).bind fun t633=>(some t633)) else (some false)))) = some r:=h
 clear h
 replace H:=Option.bind_eq_some_iff.mp H
 obtain ⟨t632,A30,H⟩:=H
 replace H:(if t632 = true then (some true) else (if a0_1 ≥ 0 then ((impl_has.f a1_0 a1_1 a0_1).bind fun t633=>(some t633)) else (some false))) = some r:=H
 have A3:=Aside0.mk A30
 clear A30
 by_cases c4:t632 = true
 ·subst c4
  have H1:(some true) = some r:=by rw [if_pos rfl] at H;exact H
  clear H
  have H:=H1
  clear H1
  obtain rfl:=Option.some.inj H
  go_enter Try.func68,Try.ntmps68
  go_wp2_with (first | ((with_reducible refine gate_dst (N:=2) rfl ?_);refine box_event ?hg (N:=2) ?hd (cs:=#[.int .i64 a0_0,.int .i64 a0_1]) (t:=32) ?hr ?_;(case hd=>rfl);(case hg=>rfl);(case hr=>first | (go_simp;done) | (go_simp;rfl));intro gb630 hg w5 hbox hb;have n0_:=Aside0.mk (below_step (by repeat (first | (with_reducible first | exact HB.out | apply below_alloc | apply pw_below_drewN | apply below_drew1) | exact HB.out)) hb);have n1_:=Aside0.mk (hbox);have n2_:=Aside0.mk ((by rw [hg];exact (below_size (by repeat (first | (with_reducible first | exact HB.out | apply below_alloc | apply pw_below_drewN | apply below_drew1) | exact HB.out))):w.heap.size ≤ gb630));have n3_:=Aside0.mk ((by rw [hg];exact (below_size (by repeat (first | (with_reducible first | exact HB.out | apply below_alloc | apply pw_below_drewN | apply below_drew1) | exact HB.out))):w.heap.size ≤ gb630));clear HB;have HB:=n0_;have BK630:=n1_;have GW630:=n2_;have GE630:=n3_;clear n0_ n1_ n2_ n3_;clear hb hbox hg) | ((with_reducible refine gate_dst (N:=3) rfl ?_);refine box_event ?hg (N:=3) ?hd (cs:=#[.int .i64 a1_0,.int .i64 a1_1]) (t:=32) ?hr ?_;(case hd=>rfl);(case hg=>rfl);(case hr=>first | (go_simp;done) | (go_simp;rfl));intro gb631 hg w6 hbox hb;have n0_:=Aside0.mk (blk_below (g:=gb630) (o:=.cells #[.int .i64 a0_0,.int .i64 a0_1] 32 (0,0)) (by (with_reducible repeat (first | refine blk_drewN ?_ _ | refine blk_drew ?_ | refine blk_alloc ?_ _));exact BK630.out) hb);have n1_:=Aside0.mk (below_step (by repeat (first | (with_reducible first | exact HB.out | apply below_alloc | apply pw_below_drewN | apply below_drew1 | refine below_set ?_ GE630.out) | exact HB.out)) hb);have n2_:=Aside0.mk (hbox);have n3_:=Aside0.mk ((by rw [hg];exact (below_size (by repeat (first | (with_reducible first | exact HB.out | apply below_alloc | apply pw_below_drewN | apply below_drew1 | refine below_set ?_ GE630.out) | exact HB.out))):w.heap.size ≤ gb631));have n4_:=Aside0.mk ((by rw [hg];exact (below_size (by repeat (first | (with_reducible first | exact HB.out | apply below_alloc | apply pw_below_drewN | apply below_drew1 | refine below_set ?_ GE630.out) | exact HB.out))):w.heap.size ≤ gb631));have n5_:=Aside0.mk ((by rw [hg];exact Nat.ne_of_lt (blk_lt (g:=gb630) (o:=.cells #[.int .i64 a0_0,.int .i64 a0_1] 32 (0,0)) (by (with_reducible repeat (first | refine blk_drewN ?_ _ | refine blk_drew ?_ | refine blk_alloc ?_ _));exact BK630.out)):gb630 ≠ gb631));have n6_:=Aside0.mk ((by rw [hg];exact Nat.ne_of_gt (blk_lt (g:=gb630) (o:=.cells #[.int .i64 a0_0,.int .i64 a0_1] 32 (0,0)) (by (with_reducible repeat (first | refine blk_drewN ?_ _ | refine blk_drew ?_ | refine blk_alloc ?_ _));exact BK630.out)):gb631 ≠ gb630));clear BK630;clear HB;have BK630:=n0_;have HB:=n1_;have BK631:=n2_;have GW631:=n3_;have GE631:=n4_;have NB630_631:=n5_;have NB631_630:=n6_;clear n0_ n1_ n2_ n3_ n4_ n5_ n6_;clear hb hbox hg;have hnb7:=NB631_630.out;have hnc7:=NB630_631.out;have hcz8_0:w6.cell? ⟨gb631,0,none⟩ = some (.int .i64 a1_0):=(blk_cell BK631.out 0).trans rfl;have hcz8_1:w6.cell? ⟨gb631,1,none⟩ = some (.int .i64 a1_1):=(blk_cell BK631.out 1).trans rfl;have hfz8_0:=blk_frozen BK631.out 0;have hfz8_1:=blk_frozen BK631.out 1;have hcz9_0:w6.cell? ⟨gb630,0,none⟩ = some (.int .i64 a0_0):=(blk_cell BK630.out 0).trans rfl;have hcz9_1:w6.cell? ⟨gb630,1,none⟩ = some (.int .i64 a0_1):=(blk_cell BK630.out 1).trans rfl;have hfz9_0:=blk_frozen BK630.out 0;have hfz9_1:=blk_frozen BK630.out 1) | ((with_reducible refine gate_callee (f:=78) rfl ?_);refine goesL_ (some 8) rfl rfl Try.func78 (by kernel_rfl) rfl #[.agg #[.int .i64 a1_0,.int .i64 a1_1],.int .i64 a0_0] rfl (by (try simp only [List.map_toArray,List.map_cons,List.map_nil]);first | done | rfl | (simp only [List.length_drop,List.length_take];rfl)) ?_;(with_reducible refine (impl_has.calls a1_0 a1_1 a0_0 true _ A3.out).mono ?_);rintro e w10 ⟨rfl,hb⟩;refine ⟨_,rfl,?_⟩;have n0_:=Aside0.mk (blk_below (g:=gb630) (o:=.cells #[.int .i64 a0_0,.int .i64 a0_1] 32 (0,0)) (by (with_reducible repeat (first | refine blk_drewN ?_ _ | refine blk_drew ?_ | refine blk_alloc ?_ _));exact BK630.out) hb);have n1_:=Aside0.mk (blk_below (g:=gb631) (o:=.cells #[.int .i64 a1_0,.int .i64 a1_1] 32 (0,0)) (by (with_reducible repeat (first | refine blk_drewN ?_ _ | refine blk_drew ?_ | refine blk_alloc ?_ _));exact BK631.out) hb);have n2_:=Aside0.mk (below_step (by repeat (first | (with_reducible first | exact HB.out | apply below_alloc | apply pw_below_drewN | apply below_drew1 | refine below_set ?_ GE630.out | refine below_set ?_ GE631.out) | exact HB.out)) hb);clear BK630;clear BK631;clear HB;have BK630:=n0_;have BK631:=n1_;have HB:=n2_;clear n0_ n1_ n2_;(try clear hb);(try clear hb2);(try clear hk);(try clear hi)))
  go_ret
  exact ⟨by first | rfl | (simp [errW_none,errW_some] <;> rfl) | (simp [*,errW_none,errW_some] <;> rfl),by repeat (first | (with_reducible first | exact HB.out | apply below_alloc | apply pw_below_drewN | apply below_drew1 | refine below_set ?_ GE630.out | refine below_set ?_ GE631.out) | exact HB.out)⟩
 ·replace c4:=Bool.eq_false_iff.mpr c4
  subst c4
  have H1:(if a0_1 ≥ 0 then ((impl_has.f a1_0 a1_1 a0_1).bind fun t633=>(some t633)) else (some false)) = some r:=by rw [if_neg (show ¬ (false = true) by decide)] at H;exact H
  clear H
  have H:=H1
  clear H1
  by_cases c11:a0_1 ≥ 0
  ·rw [if_pos c11] at H
   have c11b0:decide (0 ≤ a0_1) = true:=decide_eq_true c11
   clear c11
   replace H:=Option.bind_eq_some_iff.mp H
   obtain ⟨t633,A120,H⟩:=H
   replace H:(some t633) = some r:=H
   have A12:=Aside0.mk A120
   clear A120
   obtain rfl:=Option.some.inj H
   go_enter Try.func68,Try.ntmps68
   go_wp2_with (first | ((with_reducible refine gate_dst (N:=2) rfl ?_);refine box_event ?hg (N:=2) ?hd (cs:=#[.int .i64 a0_0,.int .i64 a0_1]) (t:=32) ?hr ?_;(case hd=>rfl);(case hg=>rfl);(case hr=>first | (go_simp;done) | (go_simp;rfl));intro gb630 hg w13 hbox hb;have n0_:=Aside0.mk (below_step (by repeat (first | (with_reducible first | exact HB.out | apply below_alloc | apply pw_below_drewN | apply below_drew1) | exact HB.out)) hb);have n1_:=Aside0.mk (hbox);have n2_:=Aside0.mk ((by rw [hg];exact (below_size (by repeat (first | (with_reducible first | exact HB.out | apply below_alloc | apply pw_below_drewN | apply below_drew1) | exact HB.out))):w.heap.size ≤ gb630));have n3_:=Aside0.mk ((by rw [hg];exact (below_size (by repeat (first | (with_reducible first | exact HB.out | apply below_alloc | apply pw_below_drewN | apply below_drew1) | exact HB.out))):w.heap.size ≤ gb630));clear HB;have HB:=n0_;have BK630:=n1_;have GW630:=n2_;have GE630:=n3_;clear n0_ n1_ n2_ n3_;clear hb hbox hg) | ((with_reducible refine gate_dst (N:=3) rfl ?_);refine box_event ?hg (N:=3) ?hd (cs:=#[.int .i64 a1_0,.int .i64 a1_1]) (t:=32) ?hr ?_;(case hd=>rfl);(case hg=>rfl);(case hr=>first | (go_simp;done) | (go_simp;rfl));intro gb631 hg w14 hbox hb;have n0_:=Aside0.mk (blk_below (g:=gb630) (o:=.cells #[.int .i64 a0_0,.int .i64 a0_1] 32 (0,0)) (by (with_reducible repeat (first | refine blk_drewN ?_ _ | refine blk_drew ?_ | refine blk_alloc ?_ _));exact BK630.out) hb);have n1_:=Aside0.mk (below_step (by repeat (first | (with_reducible first | exact HB.out | apply below_alloc | apply pw_below_drewN | apply below_drew1 | refine below_set ?_ GE630.out) | exact HB.out)) hb);have n2_:=Aside0.mk (hbox);have n3_:=Aside0.mk ((by rw [hg];exact (below_size (by repeat (first | (with_reducible first | exact HB.out | apply below_alloc | apply pw_below_drewN | apply below_drew1 | refine below_set ?_ GE630.out) | exact HB.out))):w.heap.size ≤ gb631));have n4_:=Aside0.mk ((by rw [hg];exact (below_size (by repeat (first | (with_reducible first | exact HB.out | apply below_alloc | apply pw_below_drewN | apply below_drew1 | refine below_set ?_ GE630.out) | exact HB.out))):w.heap.size ≤ gb631));have n5_:=Aside0.mk ((by rw [hg];exact Nat.ne_of_lt (blk_lt (g:=gb630) (o:=.cells #[.int .i64 a0_0,.int .i64 a0_1] 32 (0,0)) (by (with_reducible repeat (first | refine blk_drewN ?_ _ | refine blk_drew ?_ | refine blk_alloc ?_ _));exact BK630.out)):gb630 ≠ gb631));have n6_:=Aside0.mk ((by rw [hg];exact Nat.ne_of_gt (blk_lt (g:=gb630) (o:=.cells #[.int .i64 a0_0,.int .i64 a0_1] 32 (0,0)) (by (with_reducible repeat (first | refine blk_drewN ?_ _ | refine blk_drew ?_ | refine blk_alloc ?_ _));exact BK630.out)):gb631 ≠ gb630));clear BK630;clear HB;have BK630:=n0_;have HB:=n1_;have BK631:=n2_;have GW631:=n3_;have GE631:=n4_;have NB630_631:=n5_;have NB631_630:=n6_;clear n0_ n1_ n2_ n3_ n4_ n5_ n6_;clear hb hbox hg;have hnb15:=NB631_630.out;have hnc15:=NB630_631.out;have hcz16_0:w14.cell? ⟨gb631,0,none⟩ = some (.int .i64 a1_0):=(blk_cell BK631.out 0).trans rfl;have hcz16_1:w14.cell? ⟨gb631,1,none⟩ = some (.int .i64 a1_1):=(blk_cell BK631.out 1).trans rfl;have hfz16_0:=blk_frozen BK631.out 0;have hfz16_1:=blk_frozen BK631.out 1;have hcz17_0:w14.cell? ⟨gb630,0,none⟩ = some (.int .i64 a0_0):=(blk_cell BK630.out 0).trans rfl;have hcz17_1:w14.cell? ⟨gb630,1,none⟩ = some (.int .i64 a0_1):=(blk_cell BK630.out 1).trans rfl;have hfz17_0:=blk_frozen BK630.out 0;have hfz17_1:=blk_frozen BK630.out 1) | ((with_reducible refine gate_callee (f:=78) rfl ?_);refine goesL_ (some 8) rfl rfl Try.func78 (by kernel_rfl) rfl #[.agg #[.int .i64 a1_0,.int .i64 a1_1],.int .i64 a0_0] rfl (by (try simp only [List.map_toArray,List.map_cons,List.map_nil]);first | done | rfl | (simp only [List.length_drop,List.length_take];rfl)) ?_;(with_reducible refine (impl_has.calls a1_0 a1_1 a0_0 false _ A3.out).mono ?_);rintro e w18 ⟨rfl,hb⟩;refine ⟨_,rfl,?_⟩;have n0_:=Aside0.mk (blk_below (g:=gb630) (o:=.cells #[.int .i64 a0_0,.int .i64 a0_1] 32 (0,0)) (by (with_reducible repeat (first | refine blk_drewN ?_ _ | refine blk_drew ?_ | refine blk_alloc ?_ _));exact BK630.out) hb);have n1_:=Aside0.mk (blk_below (g:=gb631) (o:=.cells #[.int .i64 a1_0,.int .i64 a1_1] 32 (0,0)) (by (with_reducible repeat (first | refine blk_drewN ?_ _ | refine blk_drew ?_ | refine blk_alloc ?_ _));exact BK631.out) hb);have n2_:=Aside0.mk (below_step (by repeat (first | (with_reducible first | exact HB.out | apply below_alloc | apply pw_below_drewN | apply below_drew1 | refine below_set ?_ GE630.out | refine below_set ?_ GE631.out) | exact HB.out)) hb);clear BK630;clear BK631;clear HB;have BK630:=n0_;have BK631:=n1_;have HB:=n2_;clear n0_ n1_ n2_;(try clear hb);(try clear hb2);(try clear hk);(try clear hi);have hcz19_0:w18.cell? ⟨gb630,0,none⟩ = some (.int .i64 a0_0):=(blk_cell BK630.out 0).trans rfl;have hcz19_1:w18.cell? ⟨gb630,1,none⟩ = some (.int .i64 a0_1):=(blk_cell BK630.out 1).trans rfl;have hfz19_0:=blk_frozen BK630.out 0;have hfz19_1:=blk_frozen BK630.out 1;have hcz20_0:w18.cell? ⟨gb631,0,none⟩ = some (.int .i64 a1_0):=(blk_cell BK631.out 0).trans rfl;have hcz20_1:w18.cell? ⟨gb631,1,none⟩ = some (.int .i64 a1_1):=(blk_cell BK631.out 1).trans rfl;have hfz20_0:=blk_frozen BK631.out 0;have hfz20_1:=blk_frozen BK631.out 1) | (go_at_call 78;(with_reducible refine (impl_has.calls a1_0 a1_1 a0_1 t633 _ A12.out).mono ?_);rintro e w21 ⟨rfl,hb⟩;have n0_:=Aside0.mk (blk_below (g:=gb630) (o:=.cells #[.int .i64 a0_0,.int .i64 a0_1] 32 (0,0)) (by (with_reducible repeat (first | refine blk_drewN ?_ _ | refine blk_drew ?_ | refine blk_alloc ?_ _));exact BK630.out) hb);have n1_:=Aside0.mk (blk_below (g:=gb631) (o:=.cells #[.int .i64 a1_0,.int .i64 a1_1] 32 (0,0)) (by (with_reducible repeat (first | refine blk_drewN ?_ _ | refine blk_drew ?_ | refine blk_alloc ?_ _));exact BK631.out) hb);have n2_:=Aside0.mk (below_step (by repeat (first | (with_reducible first | exact HB.out | apply below_alloc | apply pw_below_drewN | apply below_drew1 | refine below_set ?_ GE630.out | refine below_set ?_ GE631.out) | exact HB.out)) hb);clear BK630;clear BK631;clear HB;have BK630:=n0_;have BK631:=n1_;have HB:=n2_;clear n0_ n1_ n2_;(try clear hb);(try clear hb2);(try clear hk);(try clear hi)))
   go_ret
   exact ⟨by first | rfl | (simp [errW_none,errW_some] <;> rfl) | (simp [*,errW_none,errW_some] <;> rfl),by repeat (first | (with_reducible first | exact HB.out | apply below_alloc | apply pw_below_drewN | apply below_drew1 | refine below_set ?_ GE630.out | refine below_set ?_ GE631.out) | exact HB.out)⟩
  ·rw [if_neg c11] at H
   have c11b0:decide (0 ≤ a0_1) = false:=decide_eq_false c11
   clear c11
   obtain rfl:=Option.some.inj H
   go_enter Try.func68,Try.ntmps68
   go_wp2_with (first | ((with_reducible refine gate_dst (N:=2) rfl ?_);refine box_event ?hg (N:=2) ?hd (cs:=#[.int .i64 a0_0,.int .i64 a0_1]) (t:=32) ?hr ?_;(case hd=>rfl);(case hg=>rfl);(case hr=>first | (go_simp;done) | (go_simp;rfl));intro gb630 hg w22 hbox hb;have n0_:=Aside0.mk (below_step (by repeat (first | (with_reducible first | exact HB.out | apply below_alloc | apply pw_below_drewN | apply below_drew1) | exact HB.out)) hb);have n1_:=Aside0.mk (hbox);have n2_:=Aside0.mk ((by rw [hg];exact (below_size (by repeat (first | (with_reducible first | exact HB.out | apply below_alloc | apply pw_below_drewN | apply below_drew1) | exact HB.out))):w.heap.size ≤ gb630));have n3_:=Aside0.mk ((by rw [hg];exact (below_size (by repeat (first | (with_reducible first | exact HB.out | apply below_alloc | apply pw_below_drewN | apply below_drew1) | exact HB.out))):w.heap.size ≤ gb630));clear HB;have HB:=n0_;have BK630:=n1_;have GW630:=n2_;have GE630:=n3_;clear n0_ n1_ n2_ n3_;clear hb hbox hg) | ((with_reducible refine gate_dst (N:=3) rfl ?_);refine box_event ?hg (N:=3) ?hd (cs:=#[.int .i64 a1_0,.int .i64 a1_1]) (t:=32) ?hr ?_;(case hd=>rfl);(case hg=>rfl);(case hr=>first | (go_simp;done) | (go_simp;rfl));intro gb631 hg w23 hbox hb;have n0_:=Aside0.mk (blk_below (g:=gb630) (o:=.cells #[.int .i64 a0_0,.int .i64 a0_1] 32 (0,0)) (by (with_reducible repeat (first | refine blk_drewN ?_ _ | refine blk_drew ?_ | refine blk_alloc ?_ _));exact BK630.out) hb);have n1_:=Aside0.mk (below_step (by repeat (first | (with_reducible first | exact HB.out | apply below_alloc | apply pw_below_drewN | apply below_drew1 | refine below_set ?_ GE630.out) | exact HB.out)) hb);have n2_:=Aside0.mk (hbox);have n3_:=Aside0.mk ((by rw [hg];exact (below_size (by repeat (first | (with_reducible first | exact HB.out | apply below_alloc | apply pw_below_drewN | apply below_drew1 | refine below_set ?_ GE630.out) | exact HB.out))):w.heap.size ≤ gb631));have n4_:=Aside0.mk ((by rw [hg];exact (below_size (by repeat (first | (with_reducible first | exact HB.out | apply below_alloc | apply pw_below_drewN | apply below_drew1 | refine below_set ?_ GE630.out) | exact HB.out))):w.heap.size ≤ gb631));have n5_:=Aside0.mk ((by rw [hg];exact Nat.ne_of_lt (blk_lt (g:=gb630) (o:=.cells #[.int .i64 a0_0,.int .i64 a0_1] 32 (0,0)) (by (with_reducible repeat (first | refine blk_drewN ?_ _ | refine blk_drew ?_ | refine blk_alloc ?_ _));exact BK630.out)):gb630 ≠ gb631));have n6_:=Aside0.mk ((by rw [hg];exact Nat.ne_of_gt (blk_lt (g:=gb630) (o:=.cells #[.int .i64 a0_0,.int .i64 a0_1] 32 (0,0)) (by (with_reducible repeat (first | refine blk_drewN ?_ _ | refine blk_drew ?_ | refine blk_alloc ?_ _));exact BK630.out)):gb631 ≠ gb630));clear BK630;clear HB;have BK630:=n0_;have HB:=n1_;have BK631:=n2_;have GW631:=n3_;have GE631:=n4_;have NB630_631:=n5_;have NB631_630:=n6_;clear n0_ n1_ n2_ n3_ n4_ n5_ n6_;clear hb hbox hg;have hnb24:=NB631_630.out;have hnc24:=NB630_631.out;have hcz25_0:w23.cell? ⟨gb631,0,none⟩ = some (.int .i64 a1_0):=(blk_cell BK631.out 0).trans rfl;have hcz25_1:w23.cell? ⟨gb631,1,none⟩ = some (.int .i64 a1_1):=(blk_cell BK631.out 1).trans rfl;have hfz25_0:=blk_frozen BK631.out 0;have hfz25_1:=blk_frozen BK631.out 1;have hcz26_0:w23.cell? ⟨gb630,0,none⟩ = some (.int .i64 a0_0):=(blk_cell BK630.out 0).trans rfl;have hcz26_1:w23.cell? ⟨gb630,1,none⟩ = some (.int .i64 a0_1):=(blk_cell BK630.out 1).trans rfl;have hfz26_0:=blk_frozen BK630.out 0;have hfz26_1:=blk_frozen BK630.out 1) | ((with_reducible refine gate_callee (f:=78) rfl ?_);refine goesL_ (some 8) rfl rfl Try.func78 (by kernel_rfl) rfl #[.agg #[.int .i64 a1_0,.int .i64 a1_1],.int .i64 a0_0] rfl (by (try simp only [List.map_toArray,List.map_cons,List.map_nil]);first | done | rfl | (simp only [List.length_drop,List.length_take];rfl)) ?_;(with_reducible refine (impl_has.calls a1_0 a1_1 a0_0 false _ A3.out).mono ?_);rintro e w27 ⟨rfl,hb⟩;refine ⟨_,rfl,?_⟩;have n0_:=Aside0.mk (blk_below (g:=gb630) (o:=.cells #[.int .i64 a0_0,.int .i64 a0_1] 32 (0,0)) (by (with_reducible repeat (first | refine blk_drewN ?_ _ | refine blk_drew ?_ | refine blk_alloc ?_ _));exact BK630.out) hb);have n1_:=Aside0.mk (blk_below (g:=gb631) (o:=.cells #[.int .i64 a1_0,.int .i64 a1_1] 32 (0,0)) (by (with_reducible repeat (first | refine blk_drewN ?_ _ | refine blk_drew ?_ | refine blk_alloc ?_ _));exact BK631.out) hb);have n2_:=Aside0.mk (below_step (by repeat (first | (with_reducible first | exact HB.out | apply below_alloc | apply pw_below_drewN | apply below_drew1 | refine below_set ?_ GE630.out | refine below_set ?_ GE631.out) | exact HB.out)) hb);clear BK630;clear BK631;clear HB;have BK630:=n0_;have BK631:=n1_;have HB:=n2_;clear n0_ n1_ n2_;(try clear hb);(try clear hb2);(try clear hk);(try clear hi);have hcz28_0:w27.cell? ⟨gb630,0,none⟩ = some (.int .i64 a0_0):=(blk_cell BK630.out 0).trans rfl;have hcz28_1:w27.cell? ⟨gb630,1,none⟩ = some (.int .i64 a0_1):=(blk_cell BK630.out 1).trans rfl;have hfz28_0:=blk_frozen BK630.out 0;have hfz28_1:=blk_frozen BK630.out 1))
   go_ret
   exact ⟨by first | rfl | (simp [errW_none,errW_some] <;> rfl) | (simp [*,errW_none,errW_some] <;> rfl),by repeat (first | (with_reducible first | exact HB.out | apply below_alloc | apply pw_below_drewN | apply below_drew1 | refine below_set ?_ GE630.out | refine below_set ?_ GE631.out) | exact HB.out)⟩
mutual
def spec_l19Drop.l0:Nat → List (S32) → Int → Int → Option ((List (S32)))
 | 0,_,_,_=>none
 | k + 1,x0,x1,x5=>if x5 > x1 then (if x5 < (x0.length:Int) then (if 0 ≤ x1 then (if x1 < (x0.length:Int) then (if 0 ≤ x5 then ((spec_l19Shares.f ((rd_T32 x0 x1).f0) ((rd_T32 x0 x1).f1) ((rd_T32 x0 x5).f0) ((rd_T32 x0 x5).f1)).bind fun t665=>(if t665 = true then ((spec_l19Drop.f k x0 x5).bind fun t666=>(spec_l19Drop.l0 k t666 x1 (wrap64 (x5 - 1)))) else (spec_l19Drop.l0 k x0 x1 (wrap64 (x5 - 1))))) else (none)) else (none)) else (none)) else (spec_l19Drop.l0 k x0 x1 (wrap64 (x5 - 1)))) else ((spec_l19Without.f x0 x1).bind fun t660=>(some t660))
def spec_l19Drop.f:Nat → List (S32) → Int → Option ((List (S32)))
 | 0,_,_=>none
 | k + 1,l0,a1=>spec_l19Drop.l0 k l0 a1 (wrap64 ((l0.length:Int) - 1))
end
theorem spec_l19Drop.mono_l:∀ k,(∀ y0 y1,LeO (spec_l19Drop.f k y0 y1) (spec_l19Drop.f (k + 1) y0 y1))∧(∀ y0 y1 y2,LeO (spec_l19Drop.l0 k y0 y1 y2) (spec_l19Drop.l0 (k + 1) y0 y1 y2))
 | 0=>⟨fun _ _ r h=>by simp [spec_l19Drop.f] at h,fun _ _ _ r h=>by simp [spec_l19Drop.l0] at h⟩
 | k + 1=>by
  obtain ⟨ih0,ih1⟩:=spec_l19Drop.mono_l k
  refine ⟨?_,?_⟩
  ·intro y0 y1
   unfold spec_l19Drop.f
   repeat' first
   | (with_reducible exact ih0 _ _)
   | (with_reducible exact ih1 _ _ _)
   | (with_reducible exact LeO.refl _)
   | (with_reducible exact LeO.none _)
   | (with_reducible refine LeO.ite ?_ ?_)
   | (with_reducible refine LeO.bind ?_ (fun _=>?_))
   | exact ih0 _ _
   | exact ih1 _ _ _
   | exact LeO.none _
   | refine LeO.ite ?_ ?_
   | refine LeO.bind ?_ (fun _=>?_)
  ·intro y0 y1 y2
   unfold spec_l19Drop.l0
   repeat' first
   | (with_reducible exact ih0 _ _)
   | (with_reducible exact ih1 _ _ _)
   | (with_reducible exact LeO.refl _)
   | (with_reducible exact LeO.none _)
   | (with_reducible refine LeO.ite ?_ ?_)
   | (with_reducible refine LeO.bind ?_ (fun _=>?_))
   | exact ih0 _ _
   | exact ih1 _ _ _
   | exact LeO.none _
   | refine LeO.ite ?_ ?_
   | refine LeO.bind ?_ (fun _=>?_)
theorem spec_l19Drop.mono:∀ a0 a1 k,LeO (spec_l19Drop.f k a0 a1) (spec_l19Drop.f (k + 1) a0 a1):=by
 intro a0 a1 k
 obtain ⟨ih0,ih1⟩:=spec_l19Drop.mono_l k
 exact ih0 a0 a1
def spec_l19Drop.T4:Bool × List (List Nat × List Nat):=(true,[([],[]),([],[]),([1],[1]),([0,2],[0,2]),([3],[3]),([4],[4]),([4],[4]),([5,6,4],[4,5,6]),([7,4],[4,7]),([4],[4]),([4],[4]),([9,10,4],[4,9,10]),([11,4],[4,11]),([8,12,4,4],[4,8,12]),([4,13],[4,13])])
def spec_l19Drop.B4:List Nat:=[0,0,2,7,15,31,31,127,255,31,31,1567,3615,8191,16383]
theorem spec_l19Drop.tab4:rtab .any (opsOf Try.f81 4) = spec_l19Drop.T4:=by kernel_rfl
theorem spec_l19Drop.bits4:waitsOk spec_l19Drop.T4.2 spec_l19Drop.B4 = true:=by kernel_rfl
set_option maxHeartbeats 8000000 in
set_option maxRecDepth 100000 in
theorem spec_l19Drop.calls (k:Nat):∀ (P0_:Nat → Prop) (A0:Option Addr) (c0:Nat) (l0:List (S32)) (a1:Int) (r:List (S32)) (w:World) (hs0:Kd.V k32 32 w w.heap.size (fun k_=>P0_ k_) (.slice A0 l0.length c0) l0) (h:spec_l19Drop.f k l0 a1 = some r),
  Calls Try.prog 81 #[.slice A0 l0.length c0,.int .i64 a1] w fun e w'=>∃ v0_:Value,e = .returned (v0_)∧Kd.R k32 32 w' w.heap.size (fun k_=>(w.heap.size ≤ k_)) v0_ r∧Below w.heap.size w w':=by
 induction k using Nat.strongRecOn with
 | _ k ih =>
 intro P0_ A0 c0 l0 a1 r w hs0 h
 cases k with
 | zero=>exact absurd h (by simp [spec_l19Drop.f])
 | succ k =>
 simp only [spec_l19Drop.f] at h
 have hu32:=Try.underlying32
 have HO0:=Aside0.mk (show Kd.V k32 32 w w.heap.size (fun k_=>(P0_ k_ ∨ w.heap.size ≤ k_)) (.slice A0 l0.length c0) l0 from Kd.V_mono hs0 (fun k_ hk=>.inl hk))
 have HB:=Aside0.mk (Below.refl w.heap.size w)
 have H:(spec_l19Drop.l0 k l0 a1 (wrap64 ((l0.length:Int) - 1))) = some r:=h
 clear h
 have H':=Aside0.mk H
 clear H
 go_enter Try.func81,Try.ntmps81
 go_wp2
 go_loopg [0,5] k (fun kq v0 v5 w'=>∃ (x0_1:List (S32)) (x5_1:Int),v5 = .int .i64 x5_1∧Aside0 (spec_l19Drop.l0 kq x0_1 a1 x5_1 = some r)∧Aside0 (kq ≤ k)∧Aside0 (Kd.V k32 32 w' w.heap.size (fun k_=>(P0_ k_ ∨ w.heap.size ≤ k_)) v0 x0_1)∧Aside0 (Below w.heap.size w w'))
 case atStart=>exact ⟨(l0),(wrap64 ((l0.length:Int) - 1)),(by first | rfl | (simp;done) | (simp [*];done)),H',⟨Nat.le_refl _⟩,⟨by (with_reducible repeat (first | apply Kd.V_alloc | apply Kd.V_drewN | apply Kd.V_drew));exact HO0.out⟩,⟨by repeat (first | (with_reducible first | exact HB.out | apply below_alloc | apply pw_below_drewN | apply below_drew1) | exact HB.out)⟩⟩
 case round =>
  clear H'
  try clear p2
  obtain ⟨x0_1,x5_1,rfl,HA,HK1,HO_0,HB⟩:=hrel
  cases gk with
  | zero=>exact absurd HA.out (by simp [spec_l19Drop.l0])
  | succ k1 =>
   have H:=HA.out
   clear HA
   simp only [spec_l19Drop.l0] at H
   by_cases c3:x5_1 > a1
   ·rw [if_pos c3] at H
    have c3b0:decide (a1 < x5_1) = true:=decide_eq_true c3
    clear c3
    by_cases c4:x5_1 < (x0_1.length:Int)
    ·rw [if_pos c4] at H
     have c4b0:decide (x5_1 < (x0_1.length:Int)) = true:=decide_eq_true c4
     clear c4
     by_cases c5:0 ≤ a1
     ·rw [if_pos c5] at H
      have c5b0:decide (0 ≤ a1) = true:=decide_eq_true c5
      clear c5
      by_cases c6:a1 < (x0_1.length:Int)
      ·rw [if_pos c6] at H
       have c6b0:decide (a1 < (x0_1.length:Int)) = true:=decide_eq_true c6
       clear c6
       by_cases c7:0 ≤ x5_1
       ·rw [if_pos c7] at H
        have c7b0:decide (0 ≤ x5_1) = true:=decide_eq_true c7
        clear c7
        replace H:=Option.bind_eq_some_iff.mp H
        obtain ⟨t665,A80,H⟩:=H
        replace H:(if t665 = true then ((spec_l19Drop.f k1 x0_1 x5_1).bind fun t666=>(spec_l19Drop.l0 k1 t666 a1 (wrap64 (x5_1 - 1)))) else (spec_l19Drop.l0 k1 x0_1 a1 (wrap64 (x5_1 - 1)))) = some r:=H
        have A8:=Aside0.mk A80
        clear A80
        by_cases c9:t665 = true
        ·subst c9
         have H1:((spec_l19Drop.f k1 x0_1 x5_1).bind fun t666=>(spec_l19Drop.l0 k1 t666 a1 (wrap64 (x5_1 - 1)))) = some r:=by rw [if_pos rfl] at H;exact H
         clear H
         have H:=H1
         clear H1
         replace H:=Option.bind_eq_some_iff.mp H
         obtain ⟨t666,A100,H⟩:=H
         replace H:(spec_l19Drop.l0 k1 t666 a1 (wrap64 (x5_1 - 1))) = some r:=H
         have A10:=Aside0.mk A100
         clear A100
         have H':=Aside0.mk H
         clear H
         try go_wp2
         have n0_:=Aside0.mk (Kd.V_drew HO_0.out)
         have n1_:=Aside0.mk (below_drew1 HB.out)
         clear HO_0
         clear HB
         have HO_0:=n0_
         have HB:=n1_
         clear n0_ n1_
         obtain ⟨Ao12,co12,eo12⟩:=Kd.V_slice HO_0.out
         (first | subst eo12 | (injection eo12 with f1_ f2_ f3_;have f4_:=f1_.symm;have f5_:=f3_.symm;clear f1_ f2_ f3_;subst f4_;subst f5_))
         have p663:0 ≤ (a1:Int):=of_decide_eq_true (by first | (with_reducible assumption) | assumption)
         have q663:a1 < (x0_1.length:Int):=of_decide_eq_true (by first | (with_reducible assumption) | assumption)
         obtain ⟨ad663,e663,hx663_0,hx663_1⟩:=at_T32 (Kd.V_reads' HO_0.out).2.2 a1 p663 q663
         cases e663
         replace p663:=eq_true p663
         replace q663:=eq_true q663
         have p664:0 ≤ (x5_1:Int):=of_decide_eq_true (by first | (with_reducible assumption) | assumption)
         have q664:x5_1 < (x0_1.length:Int):=of_decide_eq_true (by first | (with_reducible assumption) | assumption)
         obtain ⟨ad664,e664,hx664_0,hx664_1⟩:=at_T32 (Kd.V_reads' HO_0.out).2.2 x5_1 p664 q664
         obtain rfl:ad663 = ad664:=(by injection e664)
         replace p664:=eq_true p664
         replace q664:=eq_true q664
         refine start_ (n:=15) (S:=fun w'=>w'.cell? (ad663.add ((a1).toNat * 2)) = some (.int .i64 ((rd_T32 x0_1 a1).f0))∧w'.cell? ⟨(ad663.add ((a1).toNat * 2)).block,(ad663.add ((a1).toNat * 2)).off + 1,none⟩ = some (.int .i64 ((rd_T32 x0_1 a1).f1))∧w'.cell? (ad663.add ((x5_1).toNat * 2)) = some (.int .i64 ((rd_T32 x0_1 x5_1).f0))∧w'.cell? ⟨(ad663.add ((x5_1).toNat * 2)).block,(ad663.add ((x5_1).toNat * 2)).off + 1,none⟩ = some (.int .i64 ((rd_T32 x0_1 x5_1).f1))) (ds:=[]) #[false,false,false,false,false,false,false,false,false,false,false,false,false,false,false] (by kernel_rfl) rfl rfl ⟨hx663_0,hx663_1,hx664_0,hx664_1⟩ (fun hHeld=>?_);refine with_tabW spec_l19Drop.tab4 spec_l19Drop.bits4 (fun HT_ HW_=>?_)
         generalize wr.drew = w11 at HO_0 HB hx663_0 hx663_1 hx664_0 hx664_1 hHeld ⊢
         refine pure_ (i:=0) (N:=some 14) (v:=?_) (a':=?_) #[true,false,false,false,false,false,false,false,false,false,false,false,false,false,false] rfl rfl (any_of HT_.out (by kernel_rfl)) (fun _ _ _ h=>h) (Or.inl ⟨by rfl,?_⟩) ?_ ?_
         rotate_left;·intro w';go_simp;with_reducible rfl
         rotate_left;·simp only [Act.put,List.setIfInBounds_toArray,List.set_cons_zero,List.set_cons_succ,i64_w,i32_w];rfl
         refine pure_ (i:=1) (N:=some 15) (v:=?_) (a':=?_) #[true,true,false,false,false,false,false,false,false,false,false,false,false,false,false] rfl rfl (any_of HT_.out (by kernel_rfl)) (fun _ _ _ h=>h) (Or.inl ⟨by rfl,?_⟩) ?_ ?_
         rotate_left;·intro w';go_simp;with_reducible rfl
         rotate_left;·simp only [Act.put,List.setIfInBounds_toArray,List.set_cons_zero,List.set_cons_succ,i64_w,i32_w];rfl
         refine pure_ (i:=2) (N:=some 16) (v:=?_) (a':=?_) #[true,true,true,false,false,false,false,false,false,false,false,false,false,false,false] rfl rfl (any_of HT_.out (by kernel_rfl)) (fun _ _ _ h=>h) (Or.inl ⟨by rfl,?_⟩) ?_ ?_
         rotate_left;·intro w';go_simp;with_reducible rfl
         rotate_left;·simp only [Act.put,List.setIfInBounds_toArray,List.set_cons_zero,List.set_cons_succ,i64_w,i32_w];rfl
         refine pure_ (i:=3) (N:=some 17) (v:=?_) (a':=?_) #[true,true,true,true,false,false,false,false,false,false,false,false,false,false,false] rfl rfl (any_of HT_.out (by kernel_rfl)) (fun _ _ _ h=>h) (Or.inl ⟨by rfl,?_⟩) ?_ ?_
         rotate_left;·intro w';go_simp;with_reducible rfl
         rotate_left;·simp only [Act.put,List.setIfInBounds_toArray,List.set_cons_zero,List.set_cons_succ,i64_w,i32_w];rfl
         refine pure_ (i:=4) (N:=some 18) (v:=?_) (a':=?_) #[true,true,true,true,true,false,false,false,false,false,false,false,false,false,false] rfl rfl (any_of HT_.out (by kernel_rfl)) (fun _ _ _ h=>h) (Or.inl ⟨by rfl,?_⟩) ?_ ?_
         rotate_left;·intro w';go_simp;with_reducible rfl
         rotate_left;·simp only [Act.put,List.setIfInBounds_toArray,List.set_cons_zero,List.set_cons_succ,i64_w,i32_w];rfl
         refine pure_ (i:=5) (N:=some 19) (v:=?_) (a':=?_) #[true,true,true,true,true,true,false,false,false,false,false,false,false,false,false] rfl rfl (any_of HT_.out (by kernel_rfl)) (fun _ _ _ h=>h) (Or.inl ⟨by rfl,?_⟩) ?_ ?_
         rotate_left;·intro w';go_simp;with_reducible rfl
         rotate_left;·simp only [Act.put,List.setIfInBounds_toArray,List.set_cons_zero,List.set_cons_succ,i64_w,i32_w];rfl
         refine pure_ (i:=6) (N:=some 20) (v:=?_) (a':=?_) #[true,true,true,true,true,true,true,false,false,false,false,false,false,false,false] rfl rfl (any_of HT_.out (by kernel_rfl)) (fun _ _ _ h=>h) (Or.inl ⟨by rfl,?_⟩) ?_ ?_
         rotate_left;·intro w';go_simp;with_reducible rfl
         rotate_left;·simp only [Act.put,List.setIfInBounds_toArray,List.set_cons_zero,List.set_cons_succ,i64_w,i32_w];rfl
         refine pure_ (i:=7) (N:=some 21) (v:=?_) (a':=?_) #[true,true,true,true,true,true,true,true,false,false,false,false,false,false,false] rfl rfl (any_of HT_.out (by kernel_rfl)) (fun _ _ _ h=>h) (Or.inl ⟨by rfl,?_⟩) ?_ ?_
         rotate_left;·intro w';go_simp;with_reducible rfl
         rotate_left;·simp only [Act.put,List.setIfInBounds_toArray,List.set_cons_zero,List.set_cons_succ,i64_w,i32_w];rfl
         refine pure_ (i:=9) (N:=some 23) (v:=?_) (a':=?_) #[true,true,true,true,true,true,true,true,false,true,false,false,false,false,false] rfl rfl (any_of HT_.out (by kernel_rfl)) (fun _ _ _ h=>h) (Or.inl ⟨by rfl,?_⟩) ?_ ?_
         rotate_left;·intro w';go_simp;with_reducible rfl
         rotate_left;·simp only [Act.put,List.setIfInBounds_toArray,List.set_cons_zero,List.set_cons_succ,i64_w,i32_w];rfl
         refine pure_ (i:=10) (N:=some 24) (v:=?_) (a':=?_) #[true,true,true,true,true,true,true,true,false,true,true,false,false,false,false] rfl rfl (any_of HT_.out (by kernel_rfl)) (fun _ _ _ h=>h) (Or.inl ⟨by rfl,?_⟩) ?_ ?_
         rotate_left;·intro w';go_simp;with_reducible rfl
         rotate_left;·simp only [Act.put,List.setIfInBounds_toArray,List.set_cons_zero,List.set_cons_succ,i64_w,i32_w];rfl
         refine pure_ (i:=11) (N:=some 25) (v:=?_) (a':=?_) #[true,true,true,true,true,true,true,true,false,true,true,true,false,false,false] rfl rfl (any_of HT_.out (by kernel_rfl)) (fun _ _ _ h=>h) (Or.inl ⟨by rfl,?_⟩) ?_ ?_
         rotate_left;·intro w';go_simp;with_reducible rfl
         rotate_left;·simp only [Act.put,List.setIfInBounds_toArray,List.set_cons_zero,List.set_cons_succ,i64_w,i32_w];rfl
         refine take_ (i:=8) (N:=some 22) (v:=?_) (a':=?_) #[true,true,true,true,true,true,true,true,true,true,true,true,false,false,false] rfl rfl (take_ofW HT_.out HW_.out (by kernel_rfl)) (fun _ _ _ h=>h) (Or.inl ⟨by rfl,?_⟩) hHeld ?_ ?_
         rotate_left;·rintro w' ⟨s0,s1,s2,s3⟩;go_simp;with_reducible rfl
         rotate_left;·simp only [Act.put,List.setIfInBounds_toArray,List.set_cons_zero,List.set_cons_succ,i64_w,i32_w];rfl
         refine take_ (i:=12) (N:=some 26) (v:=?_) (a':=?_) #[true,true,true,true,true,true,true,true,true,true,true,true,true,false,false] rfl rfl (take_ofW HT_.out HW_.out (by kernel_rfl)) (fun _ _ _ h=>h) (Or.inl ⟨by rfl,?_⟩) hHeld ?_ ?_
         rotate_left;·rintro w' ⟨s0,s1,s2,s3⟩;go_simp;with_reducible rfl
         rotate_left;·simp only [Act.put,List.setIfInBounds_toArray,List.set_cons_zero,List.set_cons_succ,i64_w,i32_w];rfl
         refine one_ (i:=13) (N:=some 27) #[true,true,true,true,true,true,true,true,true,true,true,true,true,true,false] rfl rfl (one_of HT_.out (by kernel_rfl)) (by decide) (fun K hK=>?_)
         refine goes_ Try.func94 (by kernel_rfl) rfl #[.agg #[.int .i64 ((rd_T32 x0_1 a1).f0),.int .i64 ((rd_T32 x0_1 a1).f1)],.agg #[.int .i64 ((rd_T32 x0_1 x5_1).f0),.int .i64 ((rd_T32 x0_1 x5_1).f1)]] (by rfl) rfl rfl (by (try simp only [List.map_toArray,List.map_cons,List.map_nil]);first | done | rfl | (simp only [List.length_drop,List.length_take];rfl)) ?_
         with_reducible refine (spec_l19Shares.calls ((rd_T32 x0_1 a1).f0) ((rd_T32 x0_1 a1).f1) ((rd_T32 x0_1 x5_1).f0) ((rd_T32 x0_1 x5_1).f1) true _ A8.out).mono ?_
         rintro e w13 ⟨rfl,hb⟩
         have HS0_:=(hb.cell (World.block_lt_of_cell? _ _ (hHeld.1))).trans (hHeld.1)
         have HS1_:=(hb.cell (World.block_lt_of_cell? _ _ (hHeld.2.1))).trans (hHeld.2.1)
         have HS2_:=(hb.cell (World.block_lt_of_cell? _ _ (hHeld.2.2.1))).trans (hHeld.2.2.1)
         have HS3_:=(hb.cell (World.block_lt_of_cell? _ _ (hHeld.2.2.2))).trans (hHeld.2.2.2)
         refine ⟨_,rfl,?_⟩
         have n0_:=Aside0.mk (Kd.V_below (by (with_reducible repeat (first | apply Kd.V_alloc | apply Kd.V_drewN | apply Kd.V_drew));exact HO_0.out) hb)
         have n1_:=Aside0.mk (below_step (by repeat (first | (with_reducible first | exact HB.out | apply below_alloc | apply pw_below_drewN | apply below_drew1) | exact HB.out)) hb)
         clear HO_0
         clear HB
         have HO_0:=n0_
         have HB:=n1_
         clear n0_ n1_
         (try clear hb)
         (try clear hb2)
         (try clear hk)
         (try clear hi)
         refine hK.out _ _ ⟨HS0_,HS1_,HS2_,HS3_⟩ (fun hHeld=>?_)
         clear hK K
         refine norm_ (a':=?_) ?_ ?_
         rotate_left
         ·show Act.put _ (some 27) _ = _
          simp only [Act.put,List.setIfInBounds_toArray,List.set_cons_zero,List.set_cons_succ,i64_w,i32_w]
          rfl
         refine pure_ (i:=14) (N:=some 28) (v:=?_) (a':=?_) #[true,true,true,true,true,true,true,true,true,true,true,true,true,true,true] rfl rfl (any_of HT_.out (by kernel_rfl)) (fun _ _ _ h=>h) (Or.inl ⟨by rfl,?_⟩) ?_ ?_
         rotate_left;·intro w';go_simp;with_reducible rfl
         rotate_left;·simp only [Act.put,List.setIfInBounds_toArray,List.set_cons_zero,List.set_cons_succ,i64_w,i32_w];rfl
         refine done_ (done_of HT_.out (by kernel_rfl)) ?_
         try go_wp2_with (first | ((with_reducible refine gate_callee (f:=81) rfl ?_);refine goesL_ (some 31) rfl rfl Try.func81 (by kernel_rfl) rfl #[.slice (some ad663) x0_1.length co12,.int .i64 x5_1] rfl (by (try simp only [List.map_toArray,List.map_cons,List.map_nil]);first | done | rfl | (simp only [List.length_drop,List.length_take];rfl)) ?_;(with_reducible refine (ih k1 (by have:=HK1.out;omega) (fun k_=>(P0_ k_ ∨ w.heap.size ≤ k_)) _ _ x0_1 x5_1 t666 _ ?side1 A10.out).mono ?_);(case side1=>exact HO_0.out);rintro e w14 ⟨v667,rfl,ho0,hb⟩;refine ⟨_,rfl,?_⟩;have n0_:=Aside0.mk (Kd.V_elder' (by (with_reducible repeat (first | apply Kd.V_alloc | apply Kd.V_drewN | apply Kd.V_drew));exact HO_0.out) (Kd.R_base ho0) hb);have n1_:=Aside0.mk (Kd.R_lower (Kd.R_newM (M:=fun k_=>(w.heap.size ≤ k_)) (Kd.R_mono (ok':=fun k_=>True) ho0 (fun _ hk_=>trivial)) (below_size (by repeat (first | (with_reducible first | exact HB.out | apply below_alloc | apply pw_below_drewN | apply below_drew1) | exact HB.out))) (fun k_ h_=>h_)) (below_size (by repeat (first | (with_reducible first | exact HB.out | apply below_alloc | apply pw_below_drewN | apply below_drew1) | exact HB.out))));have n2_:=Aside0.mk (below_step (by repeat (first | (with_reducible first | exact HB.out | apply below_alloc | apply pw_below_drewN | apply below_drew1) | exact HB.out)) hb);clear HO_0;clear HB;have HO_0:=n0_;have HO668:=n1_;have HB:=n2_;clear n0_ n1_ n2_;(try clear hb);(try clear hb2);(try clear hk);(try clear hi);(try clear ho0)))
         go_roundg k1
         case measure=>have:=HK1.out;omega
         case rel=>exact ⟨(t666),(wrap64 (x5_1 - 1)),(by first | rfl | (simp;done) | (simp [*];done)),H',⟨by have:=HK1.out;omega⟩,⟨Kd.V_mono (Kd.R_V (by (with_reducible repeat (first | apply Kd.R_alloc | apply Kd.R_drewN | apply Kd.R_drew));exact Kd.R_mono HO668.out (fun _ hk=>hk.1))) (fun k_ hk=>by first | exact ⟨(.inr (hk.1)),hk.2⟩ | exact (.inr (hk)))⟩,⟨by repeat (first | (with_reducible first | exact HB.out | apply below_alloc | apply pw_below_drewN | apply below_drew1) | exact HB.out)⟩⟩
        ·replace c9:=Bool.eq_false_iff.mpr c9
         subst c9
         have H1:(spec_l19Drop.l0 k1 x0_1 a1 (wrap64 (x5_1 - 1))) = some r:=by rw [if_neg (show ¬ (false = true) by decide)] at H;exact H
         clear H
         have H:=H1
         clear H1
         have H':=Aside0.mk H
         clear H
         try go_wp2
         have n0_:=Aside0.mk (Kd.V_drew HO_0.out)
         have n1_:=Aside0.mk (below_drew1 HB.out)
         clear HO_0
         clear HB
         have HO_0:=n0_
         have HB:=n1_
         clear n0_ n1_
         obtain ⟨Ao16,co16,eo16⟩:=Kd.V_slice HO_0.out
         (first | subst eo16 | (injection eo16 with f1_ f2_ f3_;have f4_:=f1_.symm;have f5_:=f3_.symm;clear f1_ f2_ f3_;subst f4_;subst f5_))
         have p663:0 ≤ (a1:Int):=of_decide_eq_true (by first | (with_reducible assumption) | assumption)
         have q663:a1 < (x0_1.length:Int):=of_decide_eq_true (by first | (with_reducible assumption) | assumption)
         obtain ⟨ad663,e663,hx663_0,hx663_1⟩:=at_T32 (Kd.V_reads' HO_0.out).2.2 a1 p663 q663
         cases e663
         replace p663:=eq_true p663
         replace q663:=eq_true q663
         have p664:0 ≤ (x5_1:Int):=of_decide_eq_true (by first | (with_reducible assumption) | assumption)
         have q664:x5_1 < (x0_1.length:Int):=of_decide_eq_true (by first | (with_reducible assumption) | assumption)
         obtain ⟨ad664,e664,hx664_0,hx664_1⟩:=at_T32 (Kd.V_reads' HO_0.out).2.2 x5_1 p664 q664
         obtain rfl:ad663 = ad664:=(by injection e664)
         replace p664:=eq_true p664
         replace q664:=eq_true q664
         refine start_ (n:=15) (S:=fun w'=>w'.cell? (ad663.add ((a1).toNat * 2)) = some (.int .i64 ((rd_T32 x0_1 a1).f0))∧w'.cell? ⟨(ad663.add ((a1).toNat * 2)).block,(ad663.add ((a1).toNat * 2)).off + 1,none⟩ = some (.int .i64 ((rd_T32 x0_1 a1).f1))∧w'.cell? (ad663.add ((x5_1).toNat * 2)) = some (.int .i64 ((rd_T32 x0_1 x5_1).f0))∧w'.cell? ⟨(ad663.add ((x5_1).toNat * 2)).block,(ad663.add ((x5_1).toNat * 2)).off + 1,none⟩ = some (.int .i64 ((rd_T32 x0_1 x5_1).f1))) (ds:=[]) #[false,false,false,false,false,false,false,false,false,false,false,false,false,false,false] (by kernel_rfl) rfl rfl ⟨hx663_0,hx663_1,hx664_0,hx664_1⟩ (fun hHeld=>?_);refine with_tabW spec_l19Drop.tab4 spec_l19Drop.bits4 (fun HT_ HW_=>?_)
         generalize wr.drew = w15 at HO_0 HB hx663_0 hx663_1 hx664_0 hx664_1 hHeld ⊢
         refine pure_ (i:=0) (N:=some 14) (v:=?_) (a':=?_) #[true,false,false,false,false,false,false,false,false,false,false,false,false,false,false] rfl rfl (any_of HT_.out (by kernel_rfl)) (fun _ _ _ h=>h) (Or.inl ⟨by rfl,?_⟩) ?_ ?_
         rotate_left;·intro w';go_simp;with_reducible rfl
         rotate_left;·simp only [Act.put,List.setIfInBounds_toArray,List.set_cons_zero,List.set_cons_succ,i64_w,i32_w];rfl
         refine pure_ (i:=1) (N:=some 15) (v:=?_) (a':=?_) #[true,true,false,false,false,false,false,false,false,false,false,false,false,false,false] rfl rfl (any_of HT_.out (by kernel_rfl)) (fun _ _ _ h=>h) (Or.inl ⟨by rfl,?_⟩) ?_ ?_
         rotate_left;·intro w';go_simp;with_reducible rfl
         rotate_left;·simp only [Act.put,List.setIfInBounds_toArray,List.set_cons_zero,List.set_cons_succ,i64_w,i32_w];rfl
         refine pure_ (i:=2) (N:=some 16) (v:=?_) (a':=?_) #[true,true,true,false,false,false,false,false,false,false,false,false,false,false,false] rfl rfl (any_of HT_.out (by kernel_rfl)) (fun _ _ _ h=>h) (Or.inl ⟨by rfl,?_⟩) ?_ ?_
         rotate_left;·intro w';go_simp;with_reducible rfl
         rotate_left;·simp only [Act.put,List.setIfInBounds_toArray,List.set_cons_zero,List.set_cons_succ,i64_w,i32_w];rfl
         refine pure_ (i:=3) (N:=some 17) (v:=?_) (a':=?_) #[true,true,true,true,false,false,false,false,false,false,false,false,false,false,false] rfl rfl (any_of HT_.out (by kernel_rfl)) (fun _ _ _ h=>h) (Or.inl ⟨by rfl,?_⟩) ?_ ?_
         rotate_left;·intro w';go_simp;with_reducible rfl
         rotate_left;·simp only [Act.put,List.setIfInBounds_toArray,List.set_cons_zero,List.set_cons_succ,i64_w,i32_w];rfl
         refine pure_ (i:=4) (N:=some 18) (v:=?_) (a':=?_) #[true,true,true,true,true,false,false,false,false,false,false,false,false,false,false] rfl rfl (any_of HT_.out (by kernel_rfl)) (fun _ _ _ h=>h) (Or.inl ⟨by rfl,?_⟩) ?_ ?_
         rotate_left;·intro w';go_simp;with_reducible rfl
         rotate_left;·simp only [Act.put,List.setIfInBounds_toArray,List.set_cons_zero,List.set_cons_succ,i64_w,i32_w];rfl
         refine pure_ (i:=5) (N:=some 19) (v:=?_) (a':=?_) #[true,true,true,true,true,true,false,false,false,false,false,false,false,false,false] rfl rfl (any_of HT_.out (by kernel_rfl)) (fun _ _ _ h=>h) (Or.inl ⟨by rfl,?_⟩) ?_ ?_
         rotate_left;·intro w';go_simp;with_reducible rfl
         rotate_left;·simp only [Act.put,List.setIfInBounds_toArray,List.set_cons_zero,List.set_cons_succ,i64_w,i32_w];rfl
         refine pure_ (i:=6) (N:=some 20) (v:=?_) (a':=?_) #[true,true,true,true,true,true,true,false,false,false,false,false,false,false,false] rfl rfl (any_of HT_.out (by kernel_rfl)) (fun _ _ _ h=>h) (Or.inl ⟨by rfl,?_⟩) ?_ ?_
         rotate_left;·intro w';go_simp;with_reducible rfl
         rotate_left;·simp only [Act.put,List.setIfInBounds_toArray,List.set_cons_zero,List.set_cons_succ,i64_w,i32_w];rfl
         refine pure_ (i:=7) (N:=some 21) (v:=?_) (a':=?_) #[true,true,true,true,true,true,true,true,false,false,false,false,false,false,false] rfl rfl (any_of HT_.out (by kernel_rfl)) (fun _ _ _ h=>h) (Or.inl ⟨by rfl,?_⟩) ?_ ?_
         rotate_left;·intro w';go_simp;with_reducible rfl
         rotate_left;·simp only [Act.put,List.setIfInBounds_toArray,List.set_cons_zero,List.set_cons_succ,i64_w,i32_w];rfl
         refine pure_ (i:=9) (N:=some 23) (v:=?_) (a':=?_) #[true,true,true,true,true,true,true,true,false,true,false,false,false,false,false] rfl rfl (any_of HT_.out (by kernel_rfl)) (fun _ _ _ h=>h) (Or.inl ⟨by rfl,?_⟩) ?_ ?_
         rotate_left;·intro w';go_simp;with_reducible rfl
         rotate_left;·simp only [Act.put,List.setIfInBounds_toArray,List.set_cons_zero,List.set_cons_succ,i64_w,i32_w];rfl
         refine pure_ (i:=10) (N:=some 24) (v:=?_) (a':=?_) #[true,true,true,true,true,true,true,true,false,true,true,false,false,false,false] rfl rfl (any_of HT_.out (by kernel_rfl)) (fun _ _ _ h=>h) (Or.inl ⟨by rfl,?_⟩) ?_ ?_
         rotate_left;·intro w';go_simp;with_reducible rfl
         rotate_left;·simp only [Act.put,List.setIfInBounds_toArray,List.set_cons_zero,List.set_cons_succ,i64_w,i32_w];rfl
         refine pure_ (i:=11) (N:=some 25) (v:=?_) (a':=?_) #[true,true,true,true,true,true,true,true,false,true,true,true,false,false,false] rfl rfl (any_of HT_.out (by kernel_rfl)) (fun _ _ _ h=>h) (Or.inl ⟨by rfl,?_⟩) ?_ ?_
         rotate_left;·intro w';go_simp;with_reducible rfl
         rotate_left;·simp only [Act.put,List.setIfInBounds_toArray,List.set_cons_zero,List.set_cons_succ,i64_w,i32_w];rfl
         refine take_ (i:=8) (N:=some 22) (v:=?_) (a':=?_) #[true,true,true,true,true,true,true,true,true,true,true,true,false,false,false] rfl rfl (take_ofW HT_.out HW_.out (by kernel_rfl)) (fun _ _ _ h=>h) (Or.inl ⟨by rfl,?_⟩) hHeld ?_ ?_
         rotate_left;·rintro w' ⟨s0,s1,s2,s3⟩;go_simp;with_reducible rfl
         rotate_left;·simp only [Act.put,List.setIfInBounds_toArray,List.set_cons_zero,List.set_cons_succ,i64_w,i32_w];rfl
         refine take_ (i:=12) (N:=some 26) (v:=?_) (a':=?_) #[true,true,true,true,true,true,true,true,true,true,true,true,true,false,false] rfl rfl (take_ofW HT_.out HW_.out (by kernel_rfl)) (fun _ _ _ h=>h) (Or.inl ⟨by rfl,?_⟩) hHeld ?_ ?_
         rotate_left;·rintro w' ⟨s0,s1,s2,s3⟩;go_simp;with_reducible rfl
         rotate_left;·simp only [Act.put,List.setIfInBounds_toArray,List.set_cons_zero,List.set_cons_succ,i64_w,i32_w];rfl
         refine one_ (i:=13) (N:=some 27) #[true,true,true,true,true,true,true,true,true,true,true,true,true,true,false] rfl rfl (one_of HT_.out (by kernel_rfl)) (by decide) (fun K hK=>?_)
         refine goes_ Try.func94 (by kernel_rfl) rfl #[.agg #[.int .i64 ((rd_T32 x0_1 a1).f0),.int .i64 ((rd_T32 x0_1 a1).f1)],.agg #[.int .i64 ((rd_T32 x0_1 x5_1).f0),.int .i64 ((rd_T32 x0_1 x5_1).f1)]] (by rfl) rfl rfl (by (try simp only [List.map_toArray,List.map_cons,List.map_nil]);first | done | rfl | (simp only [List.length_drop,List.length_take];rfl)) ?_
         with_reducible refine (spec_l19Shares.calls ((rd_T32 x0_1 a1).f0) ((rd_T32 x0_1 a1).f1) ((rd_T32 x0_1 x5_1).f0) ((rd_T32 x0_1 x5_1).f1) false _ A8.out).mono ?_
         rintro e w17 ⟨rfl,hb⟩
         have HS0_:=(hb.cell (World.block_lt_of_cell? _ _ (hHeld.1))).trans (hHeld.1)
         have HS1_:=(hb.cell (World.block_lt_of_cell? _ _ (hHeld.2.1))).trans (hHeld.2.1)
         have HS2_:=(hb.cell (World.block_lt_of_cell? _ _ (hHeld.2.2.1))).trans (hHeld.2.2.1)
         have HS3_:=(hb.cell (World.block_lt_of_cell? _ _ (hHeld.2.2.2))).trans (hHeld.2.2.2)
         refine ⟨_,rfl,?_⟩
         have n0_:=Aside0.mk (Kd.V_below (by (with_reducible repeat (first | apply Kd.V_alloc | apply Kd.V_drewN | apply Kd.V_drew));exact HO_0.out) hb)
         have n1_:=Aside0.mk (below_step (by repeat (first | (with_reducible first | exact HB.out | apply below_alloc | apply pw_below_drewN | apply below_drew1) | exact HB.out)) hb)
         clear HO_0
         clear HB
         have HO_0:=n0_
         have HB:=n1_
         clear n0_ n1_
         (try clear hb)
         (try clear hb2)
         (try clear hk)
         (try clear hi)
         refine hK.out _ _ ⟨HS0_,HS1_,HS2_,HS3_⟩ (fun hHeld=>?_)
         clear hK K
         refine norm_ (a':=?_) ?_ ?_
         rotate_left
         ·show Act.put _ (some 27) _ = _
          simp only [Act.put,List.setIfInBounds_toArray,List.set_cons_zero,List.set_cons_succ,i64_w,i32_w]
          rfl
         refine pure_ (i:=14) (N:=some 28) (v:=?_) (a':=?_) #[true,true,true,true,true,true,true,true,true,true,true,true,true,true,true] rfl rfl (any_of HT_.out (by kernel_rfl)) (fun _ _ _ h=>h) (Or.inl ⟨by rfl,?_⟩) ?_ ?_
         rotate_left;·intro w';go_simp;with_reducible rfl
         rotate_left;·simp only [Act.put,List.setIfInBounds_toArray,List.set_cons_zero,List.set_cons_succ,i64_w,i32_w];rfl
         refine done_ (done_of HT_.out (by kernel_rfl)) ?_
         try go_wp2
         go_roundg k1
         case measure=>have:=HK1.out;omega
         case rel=>exact ⟨(x0_1),(wrap64 (x5_1 - 1)),(by first | rfl | (simp;done) | (simp [*];done)),H',⟨by have:=HK1.out;omega⟩,⟨by (with_reducible repeat (first | apply Kd.V_alloc | apply Kd.V_drewN | apply Kd.V_drew));exact HO_0.out⟩,⟨by repeat (first | (with_reducible first | exact HB.out | apply below_alloc | apply pw_below_drewN | apply below_drew1) | exact HB.out)⟩⟩
       ·rw [if_neg c7] at H
        exact absurd H (by simp)
      ·rw [if_neg c6] at H
       exact absurd H (by simp)
     ·rw [if_neg c5] at H
      exact absurd H (by simp)
    ·rw [if_neg c4] at H
     have c4b0:decide (x5_1 < (x0_1.length:Int)) = false:=decide_eq_false c4
     clear c4
     have H':=Aside0.mk H
     clear H
     try go_wp2
     have n0_:=Aside0.mk (Kd.V_drew HO_0.out)
     have n1_:=Aside0.mk (below_drew1 HB.out)
     clear HO_0
     clear HB
     have HO_0:=n0_
     have HB:=n1_
     clear n0_ n1_
     obtain ⟨Ao19,co19,eo19⟩:=Kd.V_slice HO_0.out
     (first | subst eo19 | (injection eo19 with f1_ f2_ f3_;have f4_:=f1_.symm;have f5_:=f3_.symm;clear f1_ f2_ f3_;subst f4_;subst f5_))
     refine start_ (n:=15) (S:=fun w'=>True) (ds:=[]) #[false,false,false,false,false,false,false,false,false,false,false,false,false,false,false] (by kernel_rfl) rfl rfl trivial (fun hHeld=>?_);refine with_tabW spec_l19Drop.tab4 spec_l19Drop.bits4 (fun HT_ HW_=>?_)
     generalize wr.drew = w18 at HO_0 HB hHeld ⊢
     refine pure_ (i:=0) (N:=some 14) (v:=?_) (a':=?_) #[true,false,false,false,false,false,false,false,false,false,false,false,false,false,false] rfl rfl (any_of HT_.out (by kernel_rfl)) (fun _ _ _ h=>h) (Or.inl ⟨by rfl,?_⟩) ?_ ?_
     rotate_left;·intro w';go_simp;with_reducible rfl
     rotate_left;·simp only [Act.put,List.setIfInBounds_toArray,List.set_cons_zero,List.set_cons_succ,i64_w,i32_w];rfl
     refine pure_ (i:=1) (N:=some 15) (v:=?_) (a':=?_) #[true,true,false,false,false,false,false,false,false,false,false,false,false,false,false] rfl rfl (any_of HT_.out (by kernel_rfl)) (fun _ _ _ h=>h) (Or.inl ⟨by rfl,?_⟩) ?_ ?_
     rotate_left;·intro w';go_simp;with_reducible rfl
     rotate_left;·simp only [Act.put,List.setIfInBounds_toArray,List.set_cons_zero,List.set_cons_succ,i64_w,i32_w];rfl
     refine pure_ (i:=2) (N:=some 16) (v:=?_) (a':=?_) #[true,true,true,false,false,false,false,false,false,false,false,false,false,false,false] rfl rfl (any_of HT_.out (by kernel_rfl)) (fun _ _ _ h=>h) (Or.inl ⟨by rfl,?_⟩) ?_ ?_
     rotate_left;·intro w';go_simp;with_reducible rfl
     rotate_left;·simp only [Act.put,List.setIfInBounds_toArray,List.set_cons_zero,List.set_cons_succ,i64_w,i32_w];rfl
     refine pure_ (i:=3) (N:=some 17) (v:=?_) (a':=?_) #[true,true,true,true,false,false,false,false,false,false,false,false,false,false,false] rfl rfl (any_of HT_.out (by kernel_rfl)) (fun _ _ _ h=>h) (Or.inl ⟨by rfl,?_⟩) ?_ ?_
     rotate_left;·intro w';go_simp;with_reducible rfl
     rotate_left;·simp only [Act.put,List.setIfInBounds_toArray,List.set_cons_zero,List.set_cons_succ,i64_w,i32_w];rfl
     refine pure_ (i:=4) (N:=some 18) (v:=?_) (a':=?_) #[true,true,true,true,true,false,false,false,false,false,false,false,false,false,false] rfl rfl (any_of HT_.out (by kernel_rfl)) (fun _ _ _ h=>h) (Or.inl ⟨by rfl,?_⟩) ?_ ?_
     rotate_left;·intro w';go_simp;with_reducible rfl
     rotate_left;·simp only [Act.put,List.setIfInBounds_toArray,List.set_cons_zero,List.set_cons_succ,i64_w,i32_w];rfl
     refine pure_ (i:=5) (N:=some 19) (v:=undef) (a':=?_) #[true,true,true,true,true,true,false,false,false,false,false,false,false,false,false] rfl rfl (any_of HT_.out (by kernel_rfl)) (fun _ _ _ h=>h) (Or.inr ⟨by rfl,rfl⟩) ?_ ?_
     rotate_left;·simp only [Act.put,List.setIfInBounds_toArray,List.set_cons_zero,List.set_cons_succ,i64_w,i32_w];rfl
     refine pure_ (i:=6) (N:=some 20) (v:=undef) (a':=?_) #[true,true,true,true,true,true,true,false,false,false,false,false,false,false,false] rfl rfl (any_of HT_.out (by kernel_rfl)) (fun _ _ _ h=>h) (Or.inr ⟨by rfl,rfl⟩) ?_ ?_
     rotate_left;·simp only [Act.put,List.setIfInBounds_toArray,List.set_cons_zero,List.set_cons_succ,i64_w,i32_w];rfl
     refine pure_ (i:=7) (N:=some 21) (v:=undef) (a':=?_) #[true,true,true,true,true,true,true,true,false,false,false,false,false,false,false] rfl rfl (any_of HT_.out (by kernel_rfl)) (fun _ _ _ h=>h) (Or.inr ⟨by rfl,rfl⟩) ?_ ?_
     rotate_left;·simp only [Act.put,List.setIfInBounds_toArray,List.set_cons_zero,List.set_cons_succ,i64_w,i32_w];rfl
     refine pure_ (i:=8) (N:=some 22) (v:=undef) (a':=?_) #[true,true,true,true,true,true,true,true,true,false,false,false,false,false,false] rfl rfl (any_of HT_.out (by kernel_rfl)) (fun _ _ _ h=>h) (Or.inr ⟨by rfl,rfl⟩) ?_ ?_
     rotate_left;·simp only [Act.put,List.setIfInBounds_toArray,List.set_cons_zero,List.set_cons_succ,i64_w,i32_w];rfl
     refine pure_ (i:=9) (N:=some 23) (v:=undef) (a':=?_) #[true,true,true,true,true,true,true,true,true,true,false,false,false,false,false] rfl rfl (any_of HT_.out (by kernel_rfl)) (fun _ _ _ h=>h) (Or.inr ⟨by rfl,rfl⟩) ?_ ?_
     rotate_left;·simp only [Act.put,List.setIfInBounds_toArray,List.set_cons_zero,List.set_cons_succ,i64_w,i32_w];rfl
     refine pure_ (i:=10) (N:=some 24) (v:=undef) (a':=?_) #[true,true,true,true,true,true,true,true,true,true,true,false,false,false,false] rfl rfl (any_of HT_.out (by kernel_rfl)) (fun _ _ _ h=>h) (Or.inr ⟨by rfl,rfl⟩) ?_ ?_
     rotate_left;·simp only [Act.put,List.setIfInBounds_toArray,List.set_cons_zero,List.set_cons_succ,i64_w,i32_w];rfl
     refine pure_ (i:=11) (N:=some 25) (v:=undef) (a':=?_) #[true,true,true,true,true,true,true,true,true,true,true,true,false,false,false] rfl rfl (any_of HT_.out (by kernel_rfl)) (fun _ _ _ h=>h) (Or.inr ⟨by rfl,rfl⟩) ?_ ?_
     rotate_left;·simp only [Act.put,List.setIfInBounds_toArray,List.set_cons_zero,List.set_cons_succ,i64_w,i32_w];rfl
     refine pure_ (i:=12) (N:=some 26) (v:=undef) (a':=?_) #[true,true,true,true,true,true,true,true,true,true,true,true,true,false,false] rfl rfl (any_of HT_.out (by kernel_rfl)) (fun _ _ _ h=>h) (Or.inr ⟨by rfl,rfl⟩) ?_ ?_
     rotate_left;·simp only [Act.put,List.setIfInBounds_toArray,List.set_cons_zero,List.set_cons_succ,i64_w,i32_w];rfl
     refine pure_ (i:=13) (N:=some 27) (v:=undef) (a':=?_) #[true,true,true,true,true,true,true,true,true,true,true,true,true,true,false] rfl rfl (any_of HT_.out (by kernel_rfl)) (fun _ _ _ h=>h) (Or.inr ⟨by rfl,rfl⟩) ?_ ?_
     rotate_left;·simp only [Act.put,List.setIfInBounds_toArray,List.set_cons_zero,List.set_cons_succ,i64_w,i32_w];rfl
     refine pure_ (i:=14) (N:=some 28) (v:=?_) (a':=?_) #[true,true,true,true,true,true,true,true,true,true,true,true,true,true,true] rfl rfl (any_of HT_.out (by kernel_rfl)) (fun _ _ _ h=>h) (Or.inl ⟨by rfl,?_⟩) ?_ ?_
     rotate_left;·intro w';go_simp;with_reducible rfl
     rotate_left;·simp only [Act.put,List.setIfInBounds_toArray,List.set_cons_zero,List.set_cons_succ,i64_w,i32_w];rfl
     refine done_ (done_of HT_.out (by kernel_rfl)) ?_
     try go_wp2
     go_roundg k1
     case measure=>have:=HK1.out;omega
     case rel=>exact ⟨(x0_1),(wrap64 (x5_1 - 1)),(by first | rfl | (simp;done) | (simp [*];done)),H',⟨by have:=HK1.out;omega⟩,⟨by (with_reducible repeat (first | apply Kd.V_alloc | apply Kd.V_drewN | apply Kd.V_drew));exact HO_0.out⟩,⟨by repeat (first | (with_reducible first | exact HB.out | apply below_alloc | apply pw_below_drewN | apply below_drew1) | exact HB.out)⟩⟩
   ·rw [if_neg c3] at H
    have c3b0:decide (a1 < x5_1) = false:=decide_eq_false c3
    clear c3
    replace H:=Option.bind_eq_some_iff.mp H
    obtain ⟨t660,A200,H⟩:=H
    replace H:(some t660) = some r:=H
    have A20:=Aside0.mk A200
    clear A200
    obtain rfl:=Option.some.inj H
    obtain ⟨Ao21,co21,eo21⟩:=Kd.V_slice HO_0.out
    subst eo21
    go_wp2_with (first | ((with_reducible refine gate_callee (f:=73) rfl ?_);refine goesL_ (some 34) rfl rfl Try.func73 (by kernel_rfl) rfl #[.slice Ao21 x0_1.length co21,.int .i64 a1] rfl (by (try simp only [List.map_toArray,List.map_cons,List.map_nil]);first | done | rfl | (simp only [List.length_drop,List.length_take];rfl)) ?_;(with_reducible refine (spec_l19Without.calls _ _ x0_1 a1 t660 _ ?side1 ?side2 A20.out).mono ?_);(case side1=>repeat (first | exact (Kd.V_reads' HO_0.out).2.2 | (with_reducible refine Kd.C_alloc ?_ _) | (with_reducible refine Kd.C_drewN ?_ _) | (with_reducible refine Kd.C_drew ?_)));(case side2=>exact (Kd.V_reads' HO_0.out).2.1);rintro e w22 ⟨v661,rfl,ho0,hb⟩;refine ⟨_,rfl,?_⟩;have n0_:=Aside0.mk (Kd.V_elder' (by (with_reducible repeat (first | apply Kd.V_alloc | apply Kd.V_drewN | apply Kd.V_drew));exact HO_0.out) (Kd.R_base ho0) hb);have n1_:=Aside0.mk (Kd.R_lower (Kd.R_newM (M:=fun k_=>(w.heap.size ≤ k_)) ho0 (below_size (by repeat (first | (with_reducible first | exact HB.out | apply below_alloc | apply pw_below_drewN | apply below_drew1) | exact HB.out))) (fun k_ h_=>h_)) (below_size (by repeat (first | (with_reducible first | exact HB.out | apply below_alloc | apply pw_below_drewN | apply below_drew1) | exact HB.out))));have n2_:=Aside0.mk (below_step (by repeat (first | (with_reducible first | exact HB.out | apply below_alloc | apply pw_below_drewN | apply below_drew1) | exact HB.out)) hb);clear HO_0;clear HB;have HO_0:=n0_;have HO662:=n1_;have HB:=n2_;clear n0_ n1_ n2_;(try clear hb);(try clear hb2);(try clear hk);(try clear hi);(try clear ho0)))
    go_ret
    exact ⟨_,by first | rfl | (simp [errW_none,errW_some] <;> rfl) | (simp [*,errW_none,errW_some] <;> rfl),by (with_reducible repeat (first | apply Kd.R_alloc | apply Kd.R_drewN | apply Kd.R_drew));exact Kd.R_mono HO662.out (fun _ hk=>hk.1),by repeat (first | (with_reducible first | exact HB.out | apply below_alloc | apply pw_below_drewN | apply below_drew1) | exact HB.out)⟩
def spec_l19Last.l0:Nat → List (S32) → Int → Int → Option (Int)
 | 0,_,_,_=>none
 | k + 1,x0,x1,x5=>if x5 ≥ 0 then (if 0 ≤ x5 then (if x5 < (x0.length:Int) then (if ((rd_T32 x0 x5).f0) = x1 then (some x5) else (if ((rd_T32 x0 x5).f1) = x1 then (some x5) else (spec_l19Last.l0 k x0 x1 (wrap64 (x5 - 1))))) else (none)) else (none)) else (some (-1))
def spec_l19Last.f (k:Nat) (l0:List (S32)) (a1:Int):Option (Int):=spec_l19Last.l0 k l0 a1 (wrap64 ((l0.length:Int) - 1))
theorem spec_l19Last.mono_l:∀ k,(∀ y0 y1 y2,LeO (spec_l19Last.l0 k y0 y1 y2) (spec_l19Last.l0 (k + 1) y0 y1 y2))
 | 0=>fun _ _ _ r h=>by simp [spec_l19Last.l0] at h
 | k + 1=>by
  have ih0:=spec_l19Last.mono_l k
  ·intro y0 y1 y2
   unfold spec_l19Last.l0
   repeat' first
   | (with_reducible exact ih0 _ _ _)
   | (with_reducible exact LeO.refl _)
   | (with_reducible exact LeO.none _)
   | (with_reducible refine LeO.ite ?_ ?_)
   | (with_reducible refine LeO.bind ?_ (fun _=>?_))
   | exact ih0 _ _ _
   | exact LeO.none _
   | refine LeO.ite ?_ ?_
   | refine LeO.bind ?_ (fun _=>?_)
theorem spec_l19Last.mono:∀ a0 a1 k,LeO (spec_l19Last.f k a0 a1) (spec_l19Last.f (k + 1) a0 a1):=by
 intro a0 a1 k
 have ih0:=spec_l19Last.mono_l k
 unfold spec_l19Last.f
 repeat' first
   | (with_reducible exact ih0 _ _ _)
   | (with_reducible exact LeO.refl _)
   | (with_reducible exact LeO.none _)
   | (with_reducible refine LeO.ite ?_ ?_)
   | (with_reducible refine LeO.bind ?_ (fun _=>?_))
   | exact ih0 _ _ _
   | exact LeO.none _
   | refine LeO.ite ?_ ?_
   | refine LeO.bind ?_ (fun _=>?_)
set_option maxHeartbeats 8000000 in
set_option maxRecDepth 100000 in
theorem spec_l19Last.calls (k:Nat) (A0:Option Addr) (c0:Nat) (l0:List (S32)) (a1:Int) (r:Int) (w:World) (hr0:Kd.C k32 w A0 l0.length l0) (hc0:l0.length ≤ c0) (h:spec_l19Last.f k l0 a1 = some r) :
  Calls Try.prog 82 #[.slice A0 l0.length c0,.int .i64 a1] w fun e w'=>e = .returned (.int .i64 r)∧Drawn0 w w':=by
 have HR0:=Aside0.mk hr0
 have HC0:=Aside0.mk hc0
 clear hr0 hc0
 have H:(spec_l19Last.l0 k l0 a1 (wrap64 ((l0.length:Int) - 1))) = some r:=h
 clear h
 have H':=Aside0.mk H
 clear H
 go_enter Try.func82,Try.ntmps82
 go_wp2
 go_loopg [5] k (fun kq v5 w'=>∃ (x5_1:Int),v5 = .int .i64 x5_1∧Aside0 (spec_l19Last.l0 kq l0 a1 x5_1 = some r)∧Aside0 (kq ≤ k)∧Drawn0 w w')
 case atStart=>exact ⟨(wrap64 ((l0.length:Int) - 1)),(by first | rfl | (simp;done) | (simp [*];done)),H',⟨Nat.le_refl _⟩,by repeat (first | exact Drawn0.refl _ | apply Drawn0.step)⟩
 case round =>
  clear H'
  try clear p2
  obtain ⟨x5_1,rfl,HA,HK1,⟨m1,rfl⟩⟩:=hrel
  cases gk with
  | zero=>exact absurd HA.out (by simp [spec_l19Last.l0])
  | succ k1 =>
   have H:=HA.out
   clear HA
   simp only [spec_l19Last.l0] at H
   by_cases c3:x5_1 ≥ 0
   ·rw [if_pos c3] at H
    have c3b0:decide (0 ≤ x5_1) = true:=decide_eq_true c3
    clear c3
    by_cases c4:0 ≤ x5_1
    ·rw [if_pos c4] at H
     have c4b0:decide (0 ≤ x5_1) = true:=decide_eq_true c4
     clear c4
     by_cases c5:x5_1 < (l0.length:Int)
     ·rw [if_pos c5] at H
      have c5b0:decide (x5_1 < (l0.length:Int)) = true:=decide_eq_true c5
      clear c5
      by_cases c6:((rd_T32 l0 x5_1).f0) = a1
      ·rw [if_pos c6] at H
       have c6b0:(((rd_T32 l0 x5_1).f0) == a1) = true:=beq_iff_eq.mpr c6
       have c6b1:(((rd_T32 l0 x5_1).f0) != a1) = false:=bne_eq_false_iff_eq.mpr c6
       clear c6
       obtain rfl:=Option.some.inj H
       have p669:0 ≤ (x5_1:Int):=of_decide_eq_true (by first | (with_reducible assumption) | assumption)
       have q669:x5_1 < (l0.length:Int):=of_decide_eq_true (by first | (with_reducible assumption) | assumption)
       obtain ⟨ad669,e669,hx669_0,hx669_1⟩:=at_T32 HR0.out x5_1 p669 q669
       cases e669
       replace p669:=eq_true p669
       replace q669:=eq_true q669
       go_wp2
       go_ret
       exact ⟨by first | rfl | (simp;done) | (simp [*];done),by repeat (first | exact Drawn0.refl _ | apply Drawn0.step)⟩
      ·rw [if_neg c6] at H
       have c6b0:(((rd_T32 l0 x5_1).f0) == a1) = false:=beq_eq_false_iff_ne.mpr c6
       have c6b1:(((rd_T32 l0 x5_1).f0) != a1) = true:=bne_iff_ne.mpr c6
       by_cases c7:((rd_T32 l0 x5_1).f1) = a1
       ·rw [if_pos c7] at H
        have c7b0:(((rd_T32 l0 x5_1).f1) == a1) = true:=beq_iff_eq.mpr c7
        have c7b1:(((rd_T32 l0 x5_1).f1) != a1) = false:=bne_eq_false_iff_eq.mpr c7
        clear c7
        obtain rfl:=Option.some.inj H
        have p669:0 ≤ (x5_1:Int):=of_decide_eq_true (by first | (with_reducible assumption) | assumption)
        have q669:x5_1 < (l0.length:Int):=of_decide_eq_true (by first | (with_reducible assumption) | assumption)
        obtain ⟨ad669,e669,hx669_0,hx669_1⟩:=at_T32 HR0.out x5_1 p669 q669
        cases e669
        replace p669:=eq_true p669
        replace q669:=eq_true q669
        have p670:0 ≤ (x5_1:Int):=of_decide_eq_true (by first | (with_reducible assumption) | assumption)
        have q670:x5_1 < (l0.length:Int):=of_decide_eq_true (by first | (with_reducible assumption) | assumption)
        obtain ⟨ad670,e670,hx670_0,hx670_1⟩:=at_T32 HR0.out x5_1 p670 q670
        obtain rfl:ad669 = ad670:=(by injection e670)
        replace p670:=eq_true p670
        replace q670:=eq_true q670
        go_wp2
        go_ret
        exact ⟨by first | rfl | (simp;done) | (simp [*];done),by repeat (first | exact Drawn0.refl _ | apply Drawn0.step)⟩
       ·rw [if_neg c7] at H
        have c7b0:(((rd_T32 l0 x5_1).f1) == a1) = false:=beq_eq_false_iff_ne.mpr c7
        have c7b1:(((rd_T32 l0 x5_1).f1) != a1) = true:=bne_iff_ne.mpr c7
        have H':=Aside0.mk H
        clear H
        have p669:0 ≤ (x5_1:Int):=of_decide_eq_true (by first | (with_reducible assumption) | assumption)
        have q669:x5_1 < (l0.length:Int):=of_decide_eq_true (by first | (with_reducible assumption) | assumption)
        obtain ⟨ad669,e669,hx669_0,hx669_1⟩:=at_T32 HR0.out x5_1 p669 q669
        cases e669
        replace p669:=eq_true p669
        replace q669:=eq_true q669
        have p670:0 ≤ (x5_1:Int):=of_decide_eq_true (by first | (with_reducible assumption) | assumption)
        have q670:x5_1 < (l0.length:Int):=of_decide_eq_true (by first | (with_reducible assumption) | assumption)
        obtain ⟨ad670,e670,hx670_0,hx670_1⟩:=at_T32 HR0.out x5_1 p670 q670
        obtain rfl:ad669 = ad670:=(by injection e670)
        replace p670:=eq_true p670
        replace q670:=eq_true q670
        go_wp2
        go_roundg k1
        case measure=>have:=HK1.out;omega
        case rel=>exact ⟨(wrap64 (x5_1 - 1)),(by first | rfl | (simp;done) | (simp [*];done)),H',⟨by have:=HK1.out;omega⟩,by repeat (first | exact Drawn0.refl _ | apply Drawn0.step)⟩
     ·rw [if_neg c5] at H
      exact absurd H (by simp)
    ·rw [if_neg c4] at H
     exact absurd H (by simp)
   ·rw [if_neg c3] at H
    have c3b0:decide (0 ≤ x5_1) = false:=decide_eq_false c3
    clear c3
    obtain rfl:=Option.some.inj H
    go_wp2
    go_ret
    exact ⟨by first | rfl | (simp;done) | (simp [*];done),by repeat (first | exact Drawn0.refl _ | apply Drawn0.step)⟩
mutual
def spec_HistoryBack.j0:Nat → List (S32) → Int → Int → Bool → Option ((List (S32)) × Bool)
 | 0,_,_,_,_=>none
 | k + 1,x1,x2,x3,x26=>if x26 = true then (some (([]:List (S32)),false)) else ((some (([]:List (S32)):List (S32))).bind fun y673=>(if y673.length + x1.length < 8796093022208 then (spec_HistoryBack.l0 k x2 x3 (y673 ++ x1)) else (none)))
def spec_HistoryBack.l0:Nat → Int → Int → List (S32) → Option ((List (S32)) × Bool)
 | 0,_,_,_=>none
 | k + 1,x2,x3,x10=>(spec_l19Of.f k x10 x2).bind fun t679=>(if (t679.length:Int) > x3 then ((spec_l19Last.f k x10 x2).bind fun t682=>((spec_l19Drop.f k x10 t682).bind fun t683=>(spec_HistoryBack.l0 k x2 x3 t683))) else (some (x10,true)))
end
def spec_HistoryBack.f (k:Nat) (l0:List (List Int)) (l1:List (S32)) (a2:Int) (a3:Int):Option ((List (S32)) × Bool):=(spec_HistoryOk.f k l0 l1).bind fun t671=>(if t671 = true then ((spec_l6In.f a2 0 (wrap64 ((l0.length:Int) - 1))).bind fun t672=>(if t672 = true then (spec_HistoryBack.j0 k l1 a2 a3 (decide (a3 < 0))) else (spec_HistoryBack.j0 k l1 a2 a3 true))) else (spec_HistoryBack.j0 k l1 a2 a3 true))
theorem spec_HistoryBack.mono_l:∀ k,(∀ y0 y1 y2 y3,LeO (spec_HistoryBack.j0 k y0 y1 y2 y3) (spec_HistoryBack.j0 (k + 1) y0 y1 y2 y3))∧(∀ y0 y1 y2,LeO (spec_HistoryBack.l0 k y0 y1 y2) (spec_HistoryBack.l0 (k + 1) y0 y1 y2))
 | 0=>⟨fun _ _ _ _ r h=>by simp [spec_HistoryBack.j0] at h,fun _ _ _ r h=>by simp [spec_HistoryBack.l0] at h⟩
 | k + 1=>by
  obtain ⟨ih0,ih1⟩:=spec_HistoryBack.mono_l k
  refine ⟨?_,?_⟩
  ·intro y0 y1 y2 y3
   unfold spec_HistoryBack.j0
   repeat' first
   | (with_reducible exact ih0 _ _ _ _)
   | (with_reducible exact ih1 _ _ _)
   | (with_reducible exact spec_HistoryOk.mono _ _ _)
   | (with_reducible exact spec_l19Drop.mono _ _ _)
   | (with_reducible exact spec_l19Last.mono _ _ _)
   | (with_reducible exact spec_l19Of.mono _ _ _)
   | (with_reducible exact LeO.refl _)
   | (with_reducible exact LeO.none _)
   | (with_reducible refine LeO.ite ?_ ?_)
   | (with_reducible refine LeO.bind ?_ (fun _=>?_))
   | exact ih0 _ _ _ _
   | exact ih1 _ _ _
   | exact spec_HistoryOk.mono _ _ _
   | exact spec_l19Drop.mono _ _ _
   | exact spec_l19Last.mono _ _ _
   | exact spec_l19Of.mono _ _ _
   | exact LeO.none _
   | refine LeO.ite ?_ ?_
   | refine LeO.bind ?_ (fun _=>?_)
  ·intro y0 y1 y2
   unfold spec_HistoryBack.l0
   repeat' first
   | (with_reducible exact ih0 _ _ _ _)
   | (with_reducible exact ih1 _ _ _)
   | (with_reducible exact spec_HistoryOk.mono _ _ _)
   | (with_reducible exact spec_l19Drop.mono _ _ _)
   | (with_reducible exact spec_l19Last.mono _ _ _)
   | (with_reducible exact spec_l19Of.mono _ _ _)
   | (with_reducible exact LeO.refl _)
   | (with_reducible exact LeO.none _)
   | (with_reducible refine LeO.ite ?_ ?_)
   | (with_reducible refine LeO.bind ?_ (fun _=>?_))
   | exact ih0 _ _ _ _
   | exact ih1 _ _ _
   | exact spec_HistoryOk.mono _ _ _
   | exact spec_l19Drop.mono _ _ _
   | exact spec_l19Last.mono _ _ _
   | exact spec_l19Of.mono _ _ _
   | exact LeO.none _
   | refine LeO.ite ?_ ?_
   | refine LeO.bind ?_ (fun _=>?_)
theorem spec_HistoryBack.mono:∀ a0 a1 a2 a3 k,LeO (spec_HistoryBack.f k a0 a1 a2 a3) (spec_HistoryBack.f (k + 1) a0 a1 a2 a3):=by
 intro a0 a1 a2 a3 k
 obtain ⟨ih0,ih1⟩:=spec_HistoryBack.mono_l k
 unfold spec_HistoryBack.f
 repeat' first
   | (with_reducible exact ih0 _ _ _ _)
   | (with_reducible exact ih1 _ _ _)
   | (with_reducible exact spec_HistoryOk.mono _ _ _)
   | (with_reducible exact spec_l19Drop.mono _ _ _)
   | (with_reducible exact spec_l19Last.mono _ _ _)
   | (with_reducible exact spec_l19Of.mono _ _ _)
   | (with_reducible exact LeO.refl _)
   | (with_reducible exact LeO.none _)
   | (with_reducible refine LeO.ite ?_ ?_)
   | (with_reducible refine LeO.bind ?_ (fun _=>?_))
   | exact ih0 _ _ _ _
   | exact ih1 _ _ _
   | exact spec_HistoryOk.mono _ _ _
   | exact spec_l19Drop.mono _ _ _
   | exact spec_l19Last.mono _ _ _
   | exact spec_l19Of.mono _ _ _
   | exact LeO.none _
   | refine LeO.ite ?_ ?_
   | refine LeO.bind ?_ (fun _=>?_)
set_option maxHeartbeats 8000000 in
set_option maxRecDepth 100000 in
theorem spec_HistoryBack.calls (k:Nat) (A0:Option Addr) (c0:Nat) (l0:List (List Int)) (A1:Option Addr) (c1:Nat) (l1:List (S32)) (a2:Int) (a3:Int) (r1:List (S32)) (r2:Bool) (w:World) (hr0:Kd.C (Kd.slice 3 (Kd.int .i64)) w A0 l0.length l0) (hc0:l0.length ≤ c0) (hr1:Kd.C k32 w A1 l1.length l1) (hc1:l1.length ≤ c1) (h:spec_HistoryBack.f k l0 l1 a2 a3 = some (r1,r2)) :
  Calls Try.prog 48 #[.slice A0 l0.length c0,.slice A1 l1.length c1,.int .i64 a2,.int .i64 a3] w fun e w'=>∃ v0_:Value,e = .returned (.tuple #[v0_,.bool r2])∧Kd.R k32 32 w' w.heap.size (fun _=>True) v0_ r1∧Below w.heap.size w w':=by
 have HR0:=Aside0.mk hr0
 have HC0:=Aside0.mk hc0
 clear hr0 hc0
 have HR1:=Aside0.mk hr1
 have HC1:=Aside0.mk hc1
 clear hr1 hc1
 have HB:=Aside0.mk (Below.refl w.heap.size w)
 have H:((spec_HistoryOk.f k l0 l1).bind fun t671=>(if t671 = true then ((spec_l6In.f a2 0 (wrap64 ((l0.length:Int) - 1))).bind fun t672=>(if t672 = true then (spec_HistoryBack.j0 k l1 a2 a3 (decide (a3 < 0))) else (spec_HistoryBack.j0 k l1 a2 a3 true))) else (spec_HistoryBack.j0 k l1 a2 a3 true))) = some (r1,r2):=h
 clear h
 have HC5:=Aside0.mk H
 clear H
 go_enter Try.func48,Try.ntmps48
 go_upto_region 1 with (fail)
 go_cut [26] (fun v26 wc=>∃ (kq:Nat) (x26_4:Bool),v26 = .bool x26_4∧Aside0 (spec_HistoryBack.j0 kq l1 a2 a3 x26_4 = some (r1,r2))∧Aside0 (kq ≤ k)∧Aside0 (Below w.heap.size w wc))
 case first =>
  have H:=HC5.out
  clear HC5
  replace H:=Option.bind_eq_some_iff.mp H
  obtain ⟨t671,A60,H⟩:=H
  replace H:(if t671 = true then ((spec_l6In.f a2 0 (wrap64 ((l0.length:Int) - 1))).bind fun t672=>(if t672 = true then (spec_HistoryBack.j0 k l1 a2 a3 (decide (a3 < 0))) else (spec_HistoryBack.j0 k l1 a2 a3 true))) else (spec_HistoryBack.j0 k l1 a2 a3 true)) = some (r1,r2):=H
  have A6:=Aside0.mk A60
  clear A60
  by_cases c7:t671 = true
  ·subst c7
   have H1:((spec_l6In.f a2 0 (wrap64 ((l0.length:Int) - 1))).bind fun t672=>(if t672 = true then (spec_HistoryBack.j0 k l1 a2 a3 (decide (a3 < 0))) else (spec_HistoryBack.j0 k l1 a2 a3 true))) = some (r1,r2):=by rw [if_pos rfl] at H;exact H
   clear H
   have H:=H1
   clear H1
   replace H:=Option.bind_eq_some_iff.mp H
   obtain ⟨t672,A80,H⟩:=H
   replace H:(if t672 = true then (spec_HistoryBack.j0 k l1 a2 a3 (decide (a3 < 0))) else (spec_HistoryBack.j0 k l1 a2 a3 true)) = some (r1,r2):=H
   have A8:=Aside0.mk A80
   clear A80
   by_cases c9:t672 = true
   ·subst c9
    have H1:(spec_HistoryBack.j0 k l1 a2 a3 (decide (a3 < 0))) = some (r1,r2):=by rw [if_pos rfl] at H;exact H
    clear H
    have H:=H1
    clear H1
    have H':=Aside0.mk H
    clear H
    go_wp2_with (first | ((with_reducible refine gate_callee (f:=24) rfl ?_);refine goesL_ (some 13) rfl rfl Try.func24 (by kernel_rfl) rfl #[.slice A0 l0.length c0,.slice A1 l1.length c1] rfl (by (try simp only [List.map_toArray,List.map_cons,List.map_nil]);first | done | rfl | (simp only [List.length_drop,List.length_take];rfl)) ?_;(with_reducible refine (spec_HistoryOk.calls k _ _ l0 _ _ l1 true _ ?side1 ?side2 ?side3 ?side4 A6.out).mono ?_);(case side1=>repeat (first | exact (Kd.C_below HR0.out HB.out) | (with_reducible refine Kd.C_alloc ?_ _) | (with_reducible refine Kd.C_drewN ?_ _) | (with_reducible refine Kd.C_drew ?_)));(case side2=>exact HC0.out);(case side3=>repeat (first | exact (Kd.C_below HR1.out HB.out) | (with_reducible refine Kd.C_alloc ?_ _) | (with_reducible refine Kd.C_drewN ?_ _) | (with_reducible refine Kd.C_drew ?_)));(case side4=>exact HC1.out);rintro e w10 ⟨rfl,hb⟩;refine ⟨_,rfl,?_⟩;have n0_:=Aside0.mk (below_step (by repeat (first | (with_reducible first | exact HB.out | apply below_alloc | apply pw_below_drewN | apply below_drew1) | exact HB.out)) hb);clear HB;have HB:=n0_;clear n0_;(try clear hb);(try clear hb2);(try clear hk);(try clear hi)) | (go_at_call 71;(try simp only [i64_w,i32_w]);(with_reducible refine (spec_l6In.calls a2 0 (wrap64 ((l0.length:Int) - 1)) true _ A8.out).mono ?_);rintro e w' ⟨rfl,⟨nd,rfl⟩⟩))
    go_meet
    case rel=>exact ⟨_,(decide (a3 < 0)),(by first | rfl | (simp;done) | (simp [*];done)),H',⟨by first | omega | exact Nat.le_refl _⟩,⟨by repeat (first | (with_reducible first | exact HB.out | apply below_alloc | apply pw_below_drewN | apply below_drew1) | exact HB.out)⟩⟩
   ·replace c9:=Bool.eq_false_iff.mpr c9
    subst c9
    have H1:(spec_HistoryBack.j0 k l1 a2 a3 true) = some (r1,r2):=by rw [if_neg (show ¬ (false = true) by decide)] at H;exact H
    clear H
    have H:=H1
    clear H1
    have H':=Aside0.mk H
    clear H
    go_wp2_with (first | ((with_reducible refine gate_callee (f:=24) rfl ?_);refine goesL_ (some 13) rfl rfl Try.func24 (by kernel_rfl) rfl #[.slice A0 l0.length c0,.slice A1 l1.length c1] rfl (by (try simp only [List.map_toArray,List.map_cons,List.map_nil]);first | done | rfl | (simp only [List.length_drop,List.length_take];rfl)) ?_;(with_reducible refine (spec_HistoryOk.calls k _ _ l0 _ _ l1 true _ ?side1 ?side2 ?side3 ?side4 A6.out).mono ?_);(case side1=>repeat (first | exact (Kd.C_below HR0.out HB.out) | (with_reducible refine Kd.C_alloc ?_ _) | (with_reducible refine Kd.C_drewN ?_ _) | (with_reducible refine Kd.C_drew ?_)));(case side2=>exact HC0.out);(case side3=>repeat (first | exact (Kd.C_below HR1.out HB.out) | (with_reducible refine Kd.C_alloc ?_ _) | (with_reducible refine Kd.C_drewN ?_ _) | (with_reducible refine Kd.C_drew ?_)));(case side4=>exact HC1.out);rintro e w11 ⟨rfl,hb⟩;refine ⟨_,rfl,?_⟩;have n0_:=Aside0.mk (below_step (by repeat (first | (with_reducible first | exact HB.out | apply below_alloc | apply pw_below_drewN | apply below_drew1) | exact HB.out)) hb);clear HB;have HB:=n0_;clear n0_;(try clear hb);(try clear hb2);(try clear hk);(try clear hi)) | (go_at_call 71;(try simp only [i64_w,i32_w]);(with_reducible refine (spec_l6In.calls a2 0 (wrap64 ((l0.length:Int) - 1)) false _ A8.out).mono ?_);rintro e w' ⟨rfl,⟨nd,rfl⟩⟩))
    go_meet
    case rel=>exact ⟨_,(true),(by first | rfl | (simp;done) | (simp [*];done)),H',⟨by first | omega | exact Nat.le_refl _⟩,⟨by repeat (first | (with_reducible first | exact HB.out | apply below_alloc | apply pw_below_drewN | apply below_drew1) | exact HB.out)⟩⟩
  ·replace c7:=Bool.eq_false_iff.mpr c7
   subst c7
   have H1:(spec_HistoryBack.j0 k l1 a2 a3 true) = some (r1,r2):=by rw [if_neg (show ¬ (false = true) by decide)] at H;exact H
   clear H
   have H:=H1
   clear H1
   have H':=Aside0.mk H
   clear H
   go_wp2_with (first | ((with_reducible refine gate_callee (f:=24) rfl ?_);refine goesL_ (some 13) rfl rfl Try.func24 (by kernel_rfl) rfl #[.slice A0 l0.length c0,.slice A1 l1.length c1] rfl (by (try simp only [List.map_toArray,List.map_cons,List.map_nil]);first | done | rfl | (simp only [List.length_drop,List.length_take];rfl)) ?_;(with_reducible refine (spec_HistoryOk.calls k _ _ l0 _ _ l1 false _ ?side1 ?side2 ?side3 ?side4 A6.out).mono ?_);(case side1=>repeat (first | exact (Kd.C_below HR0.out HB.out) | (with_reducible refine Kd.C_alloc ?_ _) | (with_reducible refine Kd.C_drewN ?_ _) | (with_reducible refine Kd.C_drew ?_)));(case side2=>exact HC0.out);(case side3=>repeat (first | exact (Kd.C_below HR1.out HB.out) | (with_reducible refine Kd.C_alloc ?_ _) | (with_reducible refine Kd.C_drewN ?_ _) | (with_reducible refine Kd.C_drew ?_)));(case side4=>exact HC1.out);rintro e w12 ⟨rfl,hb⟩;refine ⟨_,rfl,?_⟩;have n0_:=Aside0.mk (below_step (by repeat (first | (with_reducible first | exact HB.out | apply below_alloc | apply pw_below_drewN | apply below_drew1) | exact HB.out)) hb);clear HB;have HB:=n0_;clear n0_;(try clear hb);(try clear hb2);(try clear hk);(try clear hi)))
   go_meet
   case rel=>exact ⟨_,(true),(by first | rfl | (simp;done) | (simp [*];done)),H',⟨by first | omega | exact Nat.le_refl _⟩,⟨by repeat (first | (with_reducible first | exact HB.out | apply below_alloc | apply pw_below_drewN | apply below_drew1) | exact HB.out)⟩⟩
 case rest =>
  clear HC5
  try clear c1
  try clear c2
  try clear p2
  try clear c4
  try clear p6
  try clear c7
  try clear c9
  obtain ⟨kq,x26_4,rfl,HA,HJ4,HB⟩:=hcut
  cases kq with
  | zero=>exact absurd HA.out (by simp [spec_HistoryBack.j0])
  | succ kj4 =>
   have H:=HA.out
   clear HA
   simp only [spec_HistoryBack.j0] at H
   by_cases c13:x26_4 = true
   ·subst c13
    have H1:(some (([]:List (S32)),false)) = some (r1,r2):=by rw [if_pos rfl] at H;exact H
    clear H
    have H:=H1
    clear H1
    simp only [Option.some.injEq,Prod.mk.injEq] at H
    obtain ⟨rfl,rfl⟩:=H
    go_wp2
    go_ret2
    exact ⟨_,by first | rfl | (simp [errW_none,errW_some] <;> rfl) | (simp [*,errW_none,errW_some] <;> rfl),by first | exact Kd.R_nil _ _ _ _ _ | exact Kd.N_nil _ _ _ _ _ | exact Kd.V_nil _ _ _ _ _ | exact Kd.Q_nil _ _ _ _ _ | exact Kd.S_nil _ _ _ _ _,by repeat (first | (with_reducible first | exact HB.out | apply below_alloc | apply pw_below_drewN | apply below_drew1) | exact HB.out)⟩
   ·replace c13:=Bool.eq_false_iff.mpr c13
    subst c13
    have H1:((some (([]:List (S32)):List (S32))).bind fun y673=>(if y673.length + l1.length < 8796093022208 then (spec_HistoryBack.l0 kj4 a2 a3 (y673 ++ l1)) else (none))) = some (r1,r2):=by rw [if_neg (show ¬ (false = true) by decide)] at H;exact H
    clear H
    have H:=H1
    clear H1
    obtain ⟨y673,hy673⟩:∃ y_:List (S32),y_ = (([]:List (S32))):=⟨_,rfl⟩
    replace H:(if y673.length + l1.length < 8796093022208 then (spec_HistoryBack.l0 kj4 a2 a3 (y673 ++ l1)) else (none)) = some (r1,r2):=by first | (rw [hy673];with_reducible exact H) | (have H2_:=(Option.bind_some _ _).symm.trans H;rw [hy673];with_reducible exact H2_) | (have H2_:=(Option.bind_some _ _).symm.trans H;with_reducible exact H2_) | with_reducible exact H | (rw [hy673];exact H) | exact H
    have Ny673:=Aside0.mk hy673
    clear hy673
    by_cases c14:y673.length + l1.length < 8796093022208
    ·rw [if_pos c14] at H
     have LMc14:=Aside0.mk c14
     clear c14
     obtain ⟨y676,hy676⟩:∃ y_:List (S32),y_ = (y673 ++ l1):=⟨_,rfl⟩
     replace H:(spec_HistoryBack.l0 kj4 a2 a3 y676) = some (r1,r2):=by first | (rw [hy676];with_reducible exact H) | (have H2_:=(Option.bind_some _ _).symm.trans H;rw [hy676];with_reducible exact H2_) | (have H2_:=(Option.bind_some _ _).symm.trans H;with_reducible exact H2_) | with_reducible exact H | (rw [hy676];exact H) | exact H
     have Ny676:=Aside0.mk hy676
     clear hy676
     have H':=Aside0.mk H
     clear H
     go_wp2_with (first | ((with_reducible refine gate_dst (N:=27) rfl ?_);(try (refine gate_guard (by rfl) ?_;dsimp only));refine Kd.R_lit k32 _ 32 ?hg (N:=27) ?hd (xs:=([]:List (S32))) (inner:=[]) (ok:=fun _=>True) (okp:=fun _=>True) ?hr ?hp (fun _ hk=>hk) trivial (Below.refl _ _) (Nat.le_refl _) (by simp) ?_;(case hd=>rfl);(case hg=>rfl);(case hr=>first | (go_simp;done) | (go_simp;rfl));(case hp=>exact (Reps.none _ _));intro v674 w15 ho16 hb hg_ hnew_;clear hg_ hnew_;(first | rw [← Ny673.out] at ho16 | (simp only [Int.reduceToNat] at ho16;rw [← Ny673.out] at ho16));have n0_:=Aside0.mk (Kd.R_lower ho16 (below_size (by repeat (first | (with_reducible first | exact HB.out | apply below_alloc | apply pw_below_drewN | apply below_drew1) | exact HB.out))));have n1_:=Aside0.mk (below_step (by repeat (first | (with_reducible first | exact HB.out | apply below_alloc | apply pw_below_drewN | apply below_drew1) | exact HB.out)) hb);clear HB;have HO675:=n0_;have HB:=n1_;clear n0_ n1_;clear hb ho16) | ((with_reducible refine gate_builtin (b:=.append) (xs:=#[.tmp 27,.tmp 28]) rfl ?_);(try (refine gate_guard (by rfl) ?_;dsimp only));at_builtin;refine Kd.R_append_rows k32 (w0:=w) w.heap.size rfl (.tmp 27) (.tmp 28) 24 32 (.agg #[(.int .i64 0),(.int .i64 0)]) 16 rfl Try.underlying24 info32 rfl (by decide) (by omega) v674 y673 l1 _ _ _ (fun _=>True) (fun _=>False) rfl rfl ?aO ?aR (fun _ _ h=>h) (fun _ h=>h.elim) ?aF ?aB ?aS ?aL ?_;(case aR=>repeat (first | exact (Kd.C_below HR1.out HB.out) | (with_reducible refine Kd.C_alloc ?_ _) | (with_reducible refine Kd.C_drewN ?_ _) | (with_reducible refine Kd.C_drew ?_)));(case aB=>exact (by repeat (first | (with_reducible first | exact HB.out | apply below_alloc | apply pw_below_drewN | apply below_drew1) | exact HB.out)));(case aF=>exact (fun _ _=>trivial));(case aO=>exact (by (with_reducible repeat (first | apply Kd.R_alloc | apply Kd.R_drewN | apply Kd.R_drew));exact HO675.out));(case aS=>exact (below_size (by repeat (first | (with_reducible first | exact HB.out | apply below_alloc | apply pw_below_drewN | apply below_drew1) | exact HB.out))));(case aL=>have:=LMc14.out;omega);intro v677 w17 ho hb hg hat;rw [← Ny676.out] at ho;have n0_:=Aside0.mk (hb);have n1_:=Aside0.mk (ho);clear HB;clear HO675;have HB:=n0_;have HO678:=n1_;clear n0_ n1_;clear ho hb hg hat))
     go_loopg [10] kj4 (fun kq v10 w'=>∃ (x10_2:List (S32)),Aside0 (spec_HistoryBack.l0 kq a2 a3 x10_2 = some (r1,r2))∧Aside0 (kq ≤ kj4)∧Aside0 (Kd.R k32 32 w' w.heap.size (fun _=>True) v10 x10_2)∧Aside0 (Below w.heap.size w w'))
     case atStart=>exact ⟨(y676),H',⟨Nat.le_refl _⟩,⟨by (with_reducible repeat (first | apply Kd.R_alloc | apply Kd.R_drewN | apply Kd.R_drew));exact HO678.out⟩,⟨by repeat (first | (with_reducible first | exact HB.out | apply below_alloc | apply pw_below_drewN | apply below_drew1) | exact HB.out)⟩⟩
     case round =>
      clear H'
      try clear c1
      try clear c2
      try clear p2
      try clear c4
      try clear p6
      try clear c7
      try clear c9
      try clear c13
      try clear c14
      try clear p2
      try clear p6
      obtain ⟨x10_2,HA,HK2,HO_10,HB⟩:=hrel
      cases gk with
      | zero=>exact absurd HA.out (by simp [spec_HistoryBack.l0])
      | succ k2 =>
       have H:=HA.out
       clear HA
       simp only [spec_HistoryBack.l0] at H
       replace H:=Option.bind_eq_some_iff.mp H
       obtain ⟨t679,A180,H⟩:=H
       replace H:(if (t679.length:Int) > a3 then ((spec_l19Last.f k2 x10_2 a2).bind fun t682=>((spec_l19Drop.f k2 x10_2 t682).bind fun t683=>(spec_HistoryBack.l0 k2 a2 a3 t683))) else (some (x10_2,true))) = some (r1,r2):=H
       have A18:=Aside0.mk A180
       clear A180
       by_cases c19:(t679.length:Int) > a3
       ·rw [if_pos c19] at H
        have c19b0:decide (a3 < (t679.length:Int)) = true:=decide_eq_true c19
        clear c19
        replace H:=Option.bind_eq_some_iff.mp H
        obtain ⟨t682,A200,H⟩:=H
        replace H:((spec_l19Drop.f k2 x10_2 t682).bind fun t683=>(spec_HistoryBack.l0 k2 a2 a3 t683)) = some (r1,r2):=H
        have A20:=Aside0.mk A200
        clear A200
        replace H:=Option.bind_eq_some_iff.mp H
        obtain ⟨t683,A210,H⟩:=H
        replace H:(spec_HistoryBack.l0 k2 a2 a3 t683) = some (r1,r2):=H
        have A21:=Aside0.mk A210
        clear A210
        have H':=Aside0.mk H
        clear H
        obtain ⟨Ao22,co22,eo22⟩:=Kd.R_slice HO_10.out
        subst eo22
        go_wp2_with (first | ((with_reducible refine gate_callee (f:=74) rfl ?_);refine goesL_ (some 32) rfl rfl Try.func74 (by kernel_rfl) rfl #[.slice Ao22 x10_2.length co22,.int .i64 a2] rfl (by (try simp only [List.map_toArray,List.map_cons,List.map_nil]);first | done | rfl | (simp only [List.length_drop,List.length_take];rfl)) ?_;(with_reducible refine (spec_l19Of.calls k2 _ _ x10_2 a2 t679 _ ?side1 ?side2 A18.out).mono ?_);(case side1=>repeat (first | exact (Kd.R_reads' HO_10.out).2.2 | (with_reducible refine Kd.C_alloc ?_ _) | (with_reducible refine Kd.C_drewN ?_ _) | (with_reducible refine Kd.C_drew ?_)));(case side2=>exact (Kd.R_reads' HO_10.out).2.1);rintro e w23 ⟨v680,rfl,ho0,hb⟩;refine ⟨_,rfl,?_⟩;have n0_:=Aside0.mk (Kd.R_elder' (by (with_reducible repeat (first | apply Kd.R_alloc | apply Kd.R_drewN | apply Kd.R_drew));exact HO_10.out) (Kd.R_base ho0) hb);have n1_:=Aside0.mk (Kd.R_lower (Kd.R_new' ho0 (Kd.R_lt (by (with_reducible repeat (first | apply Kd.R_alloc | apply Kd.R_drewN | apply Kd.R_drew));exact HO_10.out))) (below_size (by repeat (first | (with_reducible first | exact HB.out | apply below_alloc | apply pw_below_drewN | apply below_drew1) | exact HB.out))));have n2_:=Aside0.mk (below_step (by repeat (first | (with_reducible first | exact HB.out | apply below_alloc | apply pw_below_drewN | apply below_drew1) | exact HB.out)) hb);clear HO_10;clear HB;have HO_10:=n0_;have HO681:=n1_;have HB:=n2_;clear n0_ n1_ n2_;(try clear hb);(try clear hb2);(try clear hk);(try clear hi);(try clear ho0);obtain ⟨Ao24,co24,eo24⟩:=Kd.R_slice HO681.out;subst eo24) | ((with_reducible refine gate_callee (f:=82) rfl ?_);refine goesL_ (some 39) rfl rfl Try.func82 (by kernel_rfl) rfl #[.slice Ao22 x10_2.length co22,.int .i64 a2] rfl (by (try simp only [List.map_toArray,List.map_cons,List.map_nil]);first | done | rfl | (simp only [List.length_drop,List.length_take];rfl)) ?_;(with_reducible refine (spec_l19Last.calls k2 _ _ x10_2 a2 t682 _ ?side1 ?side2 A20.out).mono ?_);(case side1=>repeat (first | exact (Kd.R_reads' HO_10.out).2.2 | (with_reducible refine Kd.C_alloc ?_ _) | (with_reducible refine Kd.C_drewN ?_ _) | (with_reducible refine Kd.C_drew ?_)));(case side2=>exact (Kd.R_reads' HO_10.out).2.1);rintro e w' ⟨rfl,⟨nd,rfl⟩⟩;refine ⟨_,rfl,?_⟩) | ((with_reducible refine gate_callee (f:=81) rfl ?_);refine goesL_ (some 40) rfl rfl Try.func81 (by kernel_rfl) rfl #[.slice Ao22 x10_2.length co22,.int .i64 t682] rfl (by (try simp only [List.map_toArray,List.map_cons,List.map_nil]);first | done | rfl | (simp only [List.length_drop,List.length_take];rfl)) ?_;(with_reducible refine (spec_l19Drop.calls k2 (fun k_=>some k_ = (.slice Ao22 x10_2.length co22:Value).ownBlock) _ _ x10_2 t682 t683 _ ?side1 A21.out).mono ?_);(case side1=>exact Kd.R_V (Kd.R_tight rfl (HO_10.out)));rintro e w25 ⟨v684,rfl,ho0,hb⟩;refine ⟨_,rfl,?_⟩;have n0_:=Aside0.mk (Kd.R_elder' (by (with_reducible repeat (first | apply Kd.R_alloc | apply Kd.R_drewN | apply Kd.R_drew));exact HO_10.out) (Kd.R_base ho0) hb);have n1_:=Aside0.mk (Kd.R_elder' (by (with_reducible repeat (first | apply Kd.R_alloc | apply Kd.R_drewN | apply Kd.R_drew));exact HO681.out) (Kd.R_base ho0) hb);have n2_:=Aside0.mk (Kd.R_lower (Kd.R_new' (Kd.R_new' (Kd.R_mono (ok':=fun k_=>True) ho0 (fun _ hk_=>trivial)) (Kd.R_lt (by (with_reducible repeat (first | apply Kd.R_alloc | apply Kd.R_drewN | apply Kd.R_drew));exact HO_10.out))) (Kd.R_lt (by (with_reducible repeat (first | apply Kd.R_alloc | apply Kd.R_drewN | apply Kd.R_drew));exact HO681.out))) (below_size (by repeat (first | (with_reducible first | exact HB.out | apply below_alloc | apply pw_below_drewN | apply below_drew1) | exact HB.out))));have n3_:=Aside0.mk (below_step (by repeat (first | (with_reducible first | exact HB.out | apply below_alloc | apply pw_below_drewN | apply below_drew1) | exact HB.out)) hb);clear HO_10;clear HO681;clear HB;have HO_10:=n0_;have HO681:=n1_;have HO685:=n2_;have HB:=n3_;clear n0_ n1_ n2_ n3_;(try clear hb);(try clear hb2);(try clear hk);(try clear hi);(try clear ho0)))
        go_roundg k2
        case measure=>have:=HJ4.out;have:=HK2.out;omega
        case rel=>exact ⟨(t683),H',⟨by have:=HJ4.out;have:=HK2.out;omega⟩,⟨by (with_reducible repeat (first | apply Kd.R_alloc | apply Kd.R_drewN | apply Kd.R_drew));exact Kd.R_mono HO685.out (fun _ hk=>trivial)⟩,⟨by repeat (first | (with_reducible first | exact HB.out | apply below_alloc | apply pw_below_drewN | apply below_drew1) | exact HB.out)⟩⟩
       ·rw [if_neg c19] at H
        have c19b0:decide (a3 < (t679.length:Int)) = false:=decide_eq_false c19
        clear c19
        simp only [Option.some.injEq,Prod.mk.injEq] at H
        obtain ⟨rfl,rfl⟩:=H
        obtain ⟨Ao26,co26,eo26⟩:=Kd.R_slice HO_10.out
        subst eo26
        go_wp2_with (first | ((with_reducible refine gate_callee (f:=74) rfl ?_);refine goesL_ (some 32) rfl rfl Try.func74 (by kernel_rfl) rfl #[.slice Ao26 x10_2.length co26,.int .i64 a2] rfl (by (try simp only [List.map_toArray,List.map_cons,List.map_nil]);first | done | rfl | (simp only [List.length_drop,List.length_take];rfl)) ?_;(with_reducible refine (spec_l19Of.calls k2 _ _ x10_2 a2 t679 _ ?side1 ?side2 A18.out).mono ?_);(case side1=>repeat (first | exact (Kd.R_reads' HO_10.out).2.2 | (with_reducible refine Kd.C_alloc ?_ _) | (with_reducible refine Kd.C_drewN ?_ _) | (with_reducible refine Kd.C_drew ?_)));(case side2=>exact (Kd.R_reads' HO_10.out).2.1);rintro e w27 ⟨v680,rfl,ho0,hb⟩;refine ⟨_,rfl,?_⟩;have n0_:=Aside0.mk (Kd.R_elder' (by (with_reducible repeat (first | apply Kd.R_alloc | apply Kd.R_drewN | apply Kd.R_drew));exact HO_10.out) (Kd.R_base ho0) hb);have n1_:=Aside0.mk (Kd.R_lower (Kd.R_new' ho0 (Kd.R_lt (by (with_reducible repeat (first | apply Kd.R_alloc | apply Kd.R_drewN | apply Kd.R_drew));exact HO_10.out))) (below_size (by repeat (first | (with_reducible first | exact HB.out | apply below_alloc | apply pw_below_drewN | apply below_drew1) | exact HB.out))));have n2_:=Aside0.mk (below_step (by repeat (first | (with_reducible first | exact HB.out | apply below_alloc | apply pw_below_drewN | apply below_drew1) | exact HB.out)) hb);clear HO_10;clear HB;have HO_10:=n0_;have HO681:=n1_;have HB:=n2_;clear n0_ n1_ n2_;(try clear hb);(try clear hb2);(try clear hk);(try clear hi);(try clear ho0);obtain ⟨Ao28,co28,eo28⟩:=Kd.R_slice HO681.out;subst eo28))
        go_ret2
        exact ⟨_,by first | rfl | (simp [errW_none,errW_some] <;> rfl) | (simp [*,errW_none,errW_some] <;> rfl),by (with_reducible repeat (first | apply Kd.R_alloc | apply Kd.R_drewN | apply Kd.R_drew));exact Kd.R_mono HO_10.out (fun _ hk=>trivial),by repeat (first | (with_reducible first | exact HB.out | apply below_alloc | apply pw_below_drewN | apply below_drew1) | exact HB.out)⟩
    ·rw [if_neg c14] at H
     exact absurd H (by simp)
end Go.Proofs.Ythljlnkanllpnaa.P
