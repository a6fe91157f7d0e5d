/- What the Go functions that the laws reach compute, and that their calls come to just that: told by a program of this session (aprint.py). No condition. -/
import Derived.Test.YthljlnkanllpnaaP0
import Derived.Test.YthljlnkanllpnaaP1
import Derived.Test.YthljlnkanllpnaaP2
import Derived.Test.YthljlnkanllpnaaHDelC
import Derived.Test.YthljlnkanllpnaaHDo
import Derived.Test.YthljlnkanllpnaaHThr
namespace Go.Proofs.Ythljlnkanllpnaa.P
open Go.RowKit Go.Proofs.YthljlnkanllpnaaW.PrintWords Go.Proofs.YthljlnkanllpnaaW.PrintLast Go.Proofs.YthljlnkanllpnaaW.PrintMore
attribute [local go_sem] max2_int min2_int max_two min_two max_three min_three max_four min_four
set_option linter.unusedVariables false
set_option linter.unusedSimpArgs false
attribute [local go_sem high] eqA32
def spec_DrawHistoryBack.f (k:Nat) (l0:List Int):Option ((List (List Int)) × (List (S32)) × Int × Int):=(spec_l6Open.f l0).bind fun bt612=>((spec_l92Threads.f k bt612.1 bt612.2).bind fun bt615=>((spec_l92History.f k bt612.1 bt615.2 bt615.1).bind fun bt619=>((spec_l6Rd_pick.f k bt612.1 bt619.2 (wrap64 ((bt615.1.length:Int) + 1))).bind fun bt623=>((spec_l6Rd_pick.f k bt612.1 bt623.2 6).bind fun bt625=>((spec_l6Rd_pick.f k bt612.1 bt625.2 20).bind fun bt627=>(some (bt615.1,bt619.1,bt623.1,wrap64 (bt625.1 - (wrap64 (Int.tdiv bt627.1 19))))))))))
theorem spec_DrawHistoryBack.mono:∀ a0 k,LeO (spec_DrawHistoryBack.f k a0) (spec_DrawHistoryBack.f (k + 1) a0):=by
 intro a0 k
 unfold spec_DrawHistoryBack.f
 repeat' first
   | (with_reducible exact spec_l6Rd_pick.mono _ _ _ _)
   | (with_reducible exact spec_l92History.mono _ _ _ _)
   | (with_reducible exact spec_l92Threads.mono _ _ _)
   | (with_reducible exact LeO.refl _)
   | (with_reducible exact LeO.none _)
   | (with_reducible refine LeO.ite ?_ ?_)
   | (with_reducible refine LeO.bind ?_ (fun _=>?_))
   | exact spec_l6Rd_pick.mono _ _ _ _
   | exact spec_l92History.mono _ _ _ _
   | exact spec_l92Threads.mono _ _ _
   | exact LeO.none _
   | refine LeO.ite ?_ ?_
   | refine LeO.bind ?_ (fun _=>?_)
set_option maxHeartbeats 8000000 in
set_option maxRecDepth 100000 in
theorem spec_DrawHistoryBack.calls (k:Nat) (A0:Option Addr) (c0:Nat) (l0:List Int) (r1:List (List Int)) (r2:List (S32)) (r3:Int) (r4:Int) (w:World) (hr0:Kd.C (Kd.int .u8) w A0 l0.length l0) (hc0:l0.length ≤ c0) (h:spec_DrawHistoryBack.f k l0 = some (r1,r2,r3,r4)) :
  Calls Try.prog 46 #[.slice A0 l0.length c0] w fun e w'=>∃ v0_ v1_:Value,e = .returned (.tuple #[v0_,v1_,.int .i64 r3,.int .i64 r4])∧Kd.S (Kd.slice 3 (Kd.int .i64)) 27 w' w.heap.size (fun _=>True) v0_ r1∧Kd.R k32 32 w' w.heap.size (fun _=>True) v1_ r2∧Below w.heap.size w w':=by
 have HR0:=Aside0.mk hr0
 have HC0:=Aside0.mk hc0
 clear hr0 hc0
 have HB:=Aside0.mk (Below.refl w.heap.size w)
 have H:((spec_l6Open.f l0).bind fun bt612=>((spec_l92Threads.f k bt612.1 bt612.2).bind fun bt615=>((spec_l92History.f k bt612.1 bt615.2 bt615.1).bind fun bt619=>((spec_l6Rd_pick.f k bt612.1 bt619.2 (wrap64 ((bt615.1.length:Int) + 1))).bind fun bt623=>((spec_l6Rd_pick.f k bt612.1 bt623.2 6).bind fun bt625=>((spec_l6Rd_pick.f k bt612.1 bt625.2 20).bind fun bt627=>(some (bt615.1,bt619.1,bt623.1,wrap64 (bt625.1 - (wrap64 (Int.tdiv bt627.1 19))))))))))) = some (r1,r2,r3,r4):=h
 clear h
 replace H:=Option.bind_eq_some_iff.mp H
 obtain ⟨⟨t612,t613⟩,A20,H⟩:=H
 replace H:((spec_l92Threads.f k t612 t613).bind fun bt615=>((spec_l92History.f k t612 bt615.2 bt615.1).bind fun bt619=>((spec_l6Rd_pick.f k t612 bt619.2 (wrap64 ((bt615.1.length:Int) + 1))).bind fun bt623=>((spec_l6Rd_pick.f k t612 bt623.2 6).bind fun bt625=>((spec_l6Rd_pick.f k t612 bt625.2 20).bind fun bt627=>(some (bt615.1,bt619.1,bt623.1,wrap64 (bt625.1 - (wrap64 (Int.tdiv bt627.1 19)))))))))) = some (r1,r2,r3,r4):=H
 have A2:=Aside0.mk A20
 clear A20
 replace H:=Option.bind_eq_some_iff.mp H
 obtain ⟨⟨t615,t618⟩,A30,H⟩:=H
 replace H:((spec_l92History.f k t612 t618 t615).bind fun bt619=>((spec_l6Rd_pick.f k t612 bt619.2 (wrap64 ((t615.length:Int) + 1))).bind fun bt623=>((spec_l6Rd_pick.f k t612 bt623.2 6).bind fun bt625=>((spec_l6Rd_pick.f k t612 bt625.2 20).bind fun bt627=>(some (t615,bt619.1,bt623.1,wrap64 (bt625.1 - (wrap64 (Int.tdiv bt627.1 19))))))))) = some (r1,r2,r3,r4):=H
 have A3:=Aside0.mk A30
 clear A30
 replace H:=Option.bind_eq_some_iff.mp H
 obtain ⟨⟨t619,t622⟩,A40,H⟩:=H
 replace H:((spec_l6Rd_pick.f k t612 t622 (wrap64 ((t615.length:Int) + 1))).bind fun bt623=>((spec_l6Rd_pick.f k t612 bt623.2 6).bind fun bt625=>((spec_l6Rd_pick.f k t612 bt625.2 20).bind fun bt627=>(some (t615,t619,bt623.1,wrap64 (bt625.1 - (wrap64 (Int.tdiv bt627.1 19)))))))) = some (r1,r2,r3,r4):=H
 have A4:=Aside0.mk A40
 clear A40
 replace H:=Option.bind_eq_some_iff.mp H
 obtain ⟨⟨t623,t624⟩,A50,H⟩:=H
 replace H:((spec_l6Rd_pick.f k t612 t624 6).bind fun bt625=>((spec_l6Rd_pick.f k t612 bt625.2 20).bind fun bt627=>(some (t615,t619,t623,wrap64 (bt625.1 - (wrap64 (Int.tdiv bt627.1 19))))))) = some (r1,r2,r3,r4):=H
 have A5:=Aside0.mk A50
 clear A50
 replace H:=Option.bind_eq_some_iff.mp H
 obtain ⟨⟨t625,t626⟩,A60,H⟩:=H
 replace H:((spec_l6Rd_pick.f k t612 t626 20).bind fun bt627=>(some (t615,t619,t623,wrap64 (t625 - (wrap64 (Int.tdiv bt627.1 19)))))) = some (r1,r2,r3,r4):=H
 have A6:=Aside0.mk A60
 clear A60
 replace H:=Option.bind_eq_some_iff.mp H
 obtain ⟨⟨t627,t628⟩,A70,H⟩:=H
 replace H:(some (t615,t619,t623,wrap64 (t625 - (wrap64 (Int.tdiv t627 19))))) = some (r1,r2,r3,r4):=H
 have A7:=Aside0.mk A70
 clear A70
 simp only [Option.some.injEq,Prod.mk.injEq] at H
 obtain ⟨rfl,rfl,rfl,rfl⟩:=H
 go_enter Try.func46,Try.ntmps46
 go_wp2_with (first | ((with_reducible refine gate_callee (f:=53) rfl ?_);refine goesL_ (some 12) rfl rfl Try.func53 (by kernel_rfl) rfl #[.slice A0 l0.length c0] rfl (by (try simp only [List.map_toArray,List.map_cons,List.map_nil]);first | done | rfl | (simp only [List.length_drop,List.length_take];rfl)) ?_;(with_reducible refine (spec_l6Open.calls _ _ l0 t612 t613 w _ ?side1 ?side2 ?side3 A2.out).mono ?_);(case side1=>repeat (first | (with_reducible first | exact HB.out | apply below_alloc | apply pw_below_drewN | apply below_drew1) | exact HB.out));(case side2=>exact HR0.out);(case side3=>exact HC0.out);rintro e w8 ⟨g614,rfl,hi,hb,hb2⟩;refine ⟨_,rfl,?_⟩;have n0_:=Aside0.mk (hb);have n1_:=Aside0.mk (hi);clear HB;have HB:=n0_;have HI614:=n1_;clear n0_ n1_;(try clear hb);(try clear hb2);(try clear hk);(try clear hi)) | ((with_reducible refine gate_callee (f:=54) rfl ?_);refine goesL_ (some 14) rfl rfl Try.func54 (by kernel_rfl) rfl #[.pointer (some ⟨g614,0,none⟩)] rfl (by (try simp only [List.map_toArray,List.map_cons,List.map_nil]);first | done | rfl | (simp only [List.length_drop,List.length_take];rfl)) ?_;(with_reducible refine (spec_l92Threads.calls k g614 t612 t613 t615 t618 w _ ?side1 ?side2 A3.out).mono ?_);(case side1=>repeat (first | (with_reducible first | exact HI614.out | apply IsS86.alloc | apply IsS86.drewN | apply IsS86.drew | apply IsS86.set_1) | exact HI614.out));(case side2=>repeat (first | (with_reducible first | exact HB.out | apply below_alloc | apply pw_below_drewN | apply below_drew1 | refine below_set ?_ (IsS86.ge HI614.out)) | exact HB.out));rintro e w9 ⟨v616,rfl,ho0,hi,hb,hk⟩;refine ⟨_,rfl,?_⟩;have n0_:=Aside0.mk (Kd.S_lower ho0 (below_size (by repeat (first | (with_reducible first | exact HB.out | apply below_alloc | apply pw_below_drewN | apply below_drew1 | refine below_set ?_ (IsS86.ge HI614.out)) | exact HB.out))));have n1_:=Aside0.mk (hb);have n2_:=Aside0.mk (hi);clear HB;clear HI614;have HO617:=n0_;have HB:=n1_;have HI614:=n2_;clear n0_ n1_ n2_;(try clear hb);(try clear hb2);(try clear hk);(try clear hi);(try clear ho0);obtain ⟨Ao10,co10,eo10⟩:=Kd.S_slice HO617.out;subst eo10) | ((with_reducible refine gate_callee (f:=55) rfl ?_);refine goesL_ (some 17) rfl rfl Try.func55 (by kernel_rfl) rfl #[.pointer (some ⟨g614,0,none⟩),.slice Ao10 t615.length co10] rfl (by (try simp only [List.map_toArray,List.map_cons,List.map_nil]);first | done | rfl | (simp only [List.length_drop,List.length_take];rfl)) ?_;(with_reducible refine (spec_l92History.calls k g614 t612 t618 _ _ t615 t619 t622 w _ ?side1 ?side2 ?side3 ?side4 A4.out).mono ?_);(case side1=>repeat (first | (with_reducible first | exact HI614.out | apply IsS86.alloc | apply IsS86.drewN | apply IsS86.drew | apply IsS86.set_1) | exact HI614.out));(case side2=>repeat (first | (with_reducible first | exact HB.out | apply below_alloc | apply pw_below_drewN | apply below_drew1 | refine below_set ?_ (IsS86.ge HI614.out)) | exact HB.out));(case side3=>exact Kd.C_foot_own ((Kd.S_R (IsS86.apartS (show IsS86 w _ g614 t612 t618 from by repeat (first | (with_reducible first | exact HI614.out | apply IsS86.alloc | apply IsS86.drewN | apply IsS86.drew | apply IsS86.set_1) | exact HI614.out)) (by (with_reducible repeat (first | apply Kd.S_alloc | apply Kd.S_drewN | apply Kd.S_drew));exact HO617.out) (by decide)))) (fun _ h_=>h_.2));(case side4=>exact (Kd.S_reads' HO617.out).2.1);rintro e w11 ⟨v620,rfl,ho0,hi,hb,hk⟩;refine ⟨_,rfl,?_⟩;have n0_:=Aside0.mk (Kd.S_mono (Kd.S_keep (IsS86.apartS (show IsS86 w _ g614 t612 t618 from by repeat (first | (with_reducible first | exact HI614.out | apply IsS86.alloc | apply IsS86.drewN | apply IsS86.drew | apply IsS86.set_1) | exact HI614.out)) (by (with_reducible repeat (first | apply Kd.S_alloc | apply Kd.S_drewN | apply Kd.S_drew));exact HO617.out) (by decide)) hk (fun _ h=>h.2)) (fun _ h=>h.1));have n1_:=Aside0.mk (Kd.R_lower ho0 (below_size (by repeat (first | (with_reducible first | exact HB.out | apply below_alloc | apply pw_below_drewN | apply below_drew1 | refine below_set ?_ (IsS86.ge HI614.out)) | exact HB.out))));have n2_:=Aside0.mk (hb);have n3_:=Aside0.mk (hi);clear HO617;clear HB;clear HI614;have HO617:=n0_;have HO621:=n1_;have HB:=n2_;have HI614:=n3_;clear n0_ n1_ n2_ n3_;(try clear hb);(try clear hb2);(try clear hk);(try clear hi);(try clear ho0)) | ((with_reducible refine gate_callee (f:=65) rfl ?_);refine goesL_ (some 22) rfl rfl Try.func65 (by kernel_rfl) rfl #[.pointer (some ⟨g614,0,none⟩),.int .i64 (wrap64 ((t615.length:Int) + 1))] rfl (by (try simp only [List.map_toArray,List.map_cons,List.map_nil]);first | done | rfl | (simp only [List.length_drop,List.length_take];rfl)) ?_;(with_reducible refine (spec_l6Rd_pick.calls k g614 t612 t622 (wrap64 ((t615.length:Int) + 1)) t623 t624 w _ ?side1 ?side2 A5.out).mono ?_);(case side1=>repeat (first | (with_reducible first | exact HI614.out | apply IsS86.alloc | apply IsS86.drewN | apply IsS86.drew | apply IsS86.set_1) | exact HI614.out));(case side2=>repeat (first | (with_reducible first | exact HB.out | apply below_alloc | apply pw_below_drewN | apply below_drew1 | refine below_set ?_ (IsS86.ge HI614.out)) | exact HB.out));rintro e w12 ⟨rfl,hi,hb,hk⟩;refine ⟨_,rfl,?_⟩;have n0_:=Aside0.mk (Kd.S_mono (Kd.S_keep (IsS86.apartS (show IsS86 w _ g614 t612 t622 from by repeat (first | (with_reducible first | exact HI614.out | apply IsS86.alloc | apply IsS86.drewN | apply IsS86.drew | apply IsS86.set_1) | exact HI614.out)) (by (with_reducible repeat (first | apply Kd.S_alloc | apply Kd.S_drewN | apply Kd.S_drew));exact HO617.out) (by decide)) hk (fun _ h=>h.2)) (fun _ h=>h.1));have n1_:=Aside0.mk (Kd.R_mono (Kd.R_keep (IsS86.apart (show IsS86 w _ g614 t612 t622 from by repeat (first | (with_reducible first | exact HI614.out | apply IsS86.alloc | apply IsS86.drewN | apply IsS86.drew | apply IsS86.set_1) | exact HI614.out)) (by (with_reducible repeat (first | apply Kd.R_alloc | apply Kd.R_drewN | apply Kd.R_drew));exact HO621.out) (by decide)) hk (fun _ h=>h.2)) (fun _ h=>h.1));have n2_:=Aside0.mk (hb);have n3_:=Aside0.mk (hi);clear HO617;clear HO621;clear HB;clear HI614;have HO617:=n0_;have HO621:=n1_;have HB:=n2_;have HI614:=n3_;clear n0_ n1_ n2_ n3_;(try clear hb);(try clear hb2);(try clear hk);(try clear hi)) | ((with_reducible refine gate_callee (f:=65) rfl ?_);refine goesL_ (some 24) rfl rfl Try.func65 (by kernel_rfl) rfl #[.pointer (some ⟨g614,0,none⟩),.int .i64 6] rfl (by (try simp only [List.map_toArray,List.map_cons,List.map_nil]);first | done | rfl | (simp only [List.length_drop,List.length_take];rfl)) ?_;(with_reducible refine (spec_l6Rd_pick.calls k g614 t612 t624 6 t625 t626 w _ ?side1 ?side2 A6.out).mono ?_);(case side1=>repeat (first | (with_reducible first | exact HI614.out | apply IsS86.alloc | apply IsS86.drewN | apply IsS86.drew | apply IsS86.set_1) | exact HI614.out));(case side2=>repeat (first | (with_reducible first | exact HB.out | apply below_alloc | apply pw_below_drewN | apply below_drew1 | refine below_set ?_ (IsS86.ge HI614.out)) | exact HB.out));rintro e w13 ⟨rfl,hi,hb,hk⟩;refine ⟨_,rfl,?_⟩;have n0_:=Aside0.mk (Kd.S_mono (Kd.S_keep (IsS86.apartS (show IsS86 w _ g614 t612 t624 from by repeat (first | (with_reducible first | exact HI614.out | apply IsS86.alloc | apply IsS86.drewN | apply IsS86.drew | apply IsS86.set_1) | exact HI614.out)) (by (with_reducible repeat (first | apply Kd.S_alloc | apply Kd.S_drewN | apply Kd.S_drew));exact HO617.out) (by decide)) hk (fun _ h=>h.2)) (fun _ h=>h.1));have n1_:=Aside0.mk (Kd.R_mono (Kd.R_keep (IsS86.apart (show IsS86 w _ g614 t612 t624 from by repeat (first | (with_reducible first | exact HI614.out | apply IsS86.alloc | apply IsS86.drewN | apply IsS86.drew | apply IsS86.set_1) | exact HI614.out)) (by (with_reducible repeat (first | apply Kd.R_alloc | apply Kd.R_drewN | apply Kd.R_drew));exact HO621.out) (by decide)) hk (fun _ h=>h.2)) (fun _ h=>h.1));have n2_:=Aside0.mk (hb);have n3_:=Aside0.mk (hi);clear HO617;clear HO621;clear HB;clear HI614;have HO617:=n0_;have HO621:=n1_;have HB:=n2_;have HI614:=n3_;clear n0_ n1_ n2_ n3_;(try clear hb);(try clear hb2);(try clear hk);(try clear hi)) | ((with_reducible refine gate_callee (f:=65) rfl ?_);refine goesL_ (some 26) rfl rfl Try.func65 (by kernel_rfl) rfl #[.pointer (some ⟨g614,0,none⟩),.int .i64 20] rfl (by (try simp only [List.map_toArray,List.map_cons,List.map_nil]);first | done | rfl | (simp only [List.length_drop,List.length_take];rfl)) ?_;(with_reducible refine (spec_l6Rd_pick.calls k g614 t612 t626 20 t627 t628 w _ ?side1 ?side2 A7.out).mono ?_);(case side1=>repeat (first | (with_reducible first | exact HI614.out | apply IsS86.alloc | apply IsS86.drewN | apply IsS86.drew | apply IsS86.set_1) | exact HI614.out));(case side2=>repeat (first | (with_reducible first | exact HB.out | apply below_alloc | apply pw_below_drewN | apply below_drew1 | refine below_set ?_ (IsS86.ge HI614.out)) | exact HB.out));rintro e w14 ⟨rfl,hi,hb,hk⟩;refine ⟨_,rfl,?_⟩;have n0_:=Aside0.mk (Kd.S_mono (Kd.S_keep (IsS86.apartS (show IsS86 w _ g614 t612 t626 from by repeat (first | (with_reducible first | exact HI614.out | apply IsS86.alloc | apply IsS86.drewN | apply IsS86.drew | apply IsS86.set_1) | exact HI614.out)) (by (with_reducible repeat (first | apply Kd.S_alloc | apply Kd.S_drewN | apply Kd.S_drew));exact HO617.out) (by decide)) hk (fun _ h=>h.2)) (fun _ h=>h.1));have n1_:=Aside0.mk (Kd.R_mono (Kd.R_keep (IsS86.apart (show IsS86 w _ g614 t612 t626 from by repeat (first | (with_reducible first | exact HI614.out | apply IsS86.alloc | apply IsS86.drewN | apply IsS86.drew | apply IsS86.set_1) | exact HI614.out)) (by (with_reducible repeat (first | apply Kd.R_alloc | apply Kd.R_drewN | apply Kd.R_drew));exact HO621.out) (by decide)) hk (fun _ h=>h.2)) (fun _ h=>h.1));have n2_:=Aside0.mk (hb);have n3_:=Aside0.mk (hi);clear HO617;clear HO621;clear HB;clear HI614;have HO617:=n0_;have HO621:=n1_;have HB:=n2_;have HI614:=n3_;clear n0_ n1_ n2_ n3_;(try clear hb);(try clear hb2);(try clear hk);(try clear hi)))
 refine bodyPost_ret (results_list (rs:=[.tmp 2,.tmp 3,.tmp 4,.tmp 5]) rfl (by simp) (.tmp (.tmp (.tmp (.tmp .nil))))) rfl ?_
 exact ⟨_,_,by first | rfl | (simp [errW_none,errW_some] <;> rfl) | (simp [*,errW_none,errW_some] <;> rfl),by (with_reducible repeat (first | apply Kd.S_alloc | apply Kd.S_drewN | apply Kd.S_drew));exact HO617.out,by (with_reducible repeat (first | apply Kd.R_alloc | apply Kd.R_drewN | apply Kd.R_drew));exact HO621.out,by repeat (first | (with_reducible first | exact HB.out | apply below_alloc | apply pw_below_drewN | apply below_drew1 | refine below_set ?_ (IsS86.ge HI614.out)) | exact HB.out)⟩
mutual
def impl_drop.l0:Nat → List (S32) → Int → Int → Option ((List (S32)))
 | 0,_,_,_=>none
 | k + 1,x0,x1,x5=>if x5 > x1 then (if x5 < (x0.length:Int) then (if 0 ≤ x1 then (if x1 < (x0.length:Int) then (if 0 ≤ x5 then ((impl_linked.f ((rd_T32 x0 x1).f0) ((rd_T32 x0 x1).f1) ((rd_T32 x0 x5).f0) ((rd_T32 x0 x5).f1)).bind fun t639=>(if t639 = true then ((impl_drop.f k x0 x5).bind fun t640=>(impl_drop.l0 k t640 x1 (wrap64 (x5 - 1)))) else (impl_drop.l0 k x0 x1 (wrap64 (x5 - 1))))) else (none)) else (none)) else (none)) else (impl_drop.l0 k x0 x1 (wrap64 (x5 - 1)))) else ((impl_Event_69.f x0 x1 (wrap64 (x1 + 1))).bind fun t634=>(some t634))
def impl_drop.f:Nat → List (S32) → Int → Option ((List (S32)))
 | 0,_,_=>none
 | k + 1,l0,a1=>impl_drop.l0 k l0 a1 (wrap64 ((l0.length:Int) - 1))
end
theorem impl_drop.mono_l:∀ k,(∀ y0 y1,LeO (impl_drop.f k y0 y1) (impl_drop.f (k + 1) y0 y1))∧(∀ y0 y1 y2,LeO (impl_drop.l0 k y0 y1 y2) (impl_drop.l0 (k + 1) y0 y1 y2))
 | 0=>⟨fun _ _ r h=>by simp [impl_drop.f] at h,fun _ _ _ r h=>by simp [impl_drop.l0] at h⟩
 | k + 1=>by
  obtain ⟨ih0,ih1⟩:=impl_drop.mono_l k
  refine ⟨?_,?_⟩
  ·intro y0 y1
   unfold impl_drop.f
   repeat' first
   | (with_reducible exact ih0 _ _)
   | (with_reducible exact ih1 _ _ _)
   | (with_reducible exact LeO.refl _)
   | (with_reducible exact LeO.none _)
   | (with_reducible refine LeO.ite ?_ ?_)
   | (with_reducible refine LeO.bind ?_ (fun _=>?_))
   | exact ih0 _ _
   | exact ih1 _ _ _
   | exact LeO.none _
   | refine LeO.ite ?_ ?_
   | refine LeO.bind ?_ (fun _=>?_)
  ·intro y0 y1 y2
   unfold impl_drop.l0
   repeat' first
   | (with_reducible exact ih0 _ _)
   | (with_reducible exact ih1 _ _ _)
   | (with_reducible exact LeO.refl _)
   | (with_reducible exact LeO.none _)
   | (with_reducible refine LeO.ite ?_ ?_)
   | (with_reducible refine LeO.bind ?_ (fun _=>?_))
   | exact ih0 _ _
   | exact ih1 _ _ _
   | exact LeO.none _
   | refine LeO.ite ?_ ?_
   | refine LeO.bind ?_ (fun _=>?_)
theorem impl_drop.mono:∀ a0 a1 k,LeO (impl_drop.f k a0 a1) (impl_drop.f (k + 1) a0 a1):=by
 intro a0 a1 k
 obtain ⟨ih0,ih1⟩:=impl_drop.mono_l k
 exact ih0 a0 a1
def impl_drop.T4:Bool × List (List Nat × List Nat):=(true,[([],[]),([],[]),([1],[1]),([0,2],[0,2]),([3],[3]),([4],[4]),([4],[4]),([5,6,4],[4,5,6]),([7,4],[4,7]),([4],[4]),([4],[4]),([9,10,4],[4,9,10]),([11,4],[4,11]),([8,12,4,4],[4,8,12]),([4,13],[4,13])])
def impl_drop.B4:List Nat:=[0,0,2,7,15,31,31,127,255,31,31,1567,3615,8191,16383]
theorem impl_drop.tab4:rtab .any (opsOf Try.f80 4) = impl_drop.T4:=by kernel_rfl
theorem impl_drop.bits4:waitsOk impl_drop.T4.2 impl_drop.B4 = true:=by kernel_rfl
set_option maxHeartbeats 8000000 in
set_option maxRecDepth 100000 in
theorem impl_drop.calls (k:Nat):∀ (P0_:Nat → Prop) (u9000_:Value) (l0:List (S32)) (a1:Int) (r:List (S32)) (w0 w:World) (hB:Below w0.heap.size w0 w) (ho0:Kd.R k32 32 w w0.heap.size P0_ u9000_ l0) (h:impl_drop.f k l0 a1 = some r),
  Calls Try.prog 80 #[u9000_,.int .i64 a1] w fun e w'=>∃ v0_:Value,e = .returned (v0_)∧Kd.R k32 32 w' w0.heap.size (fun k_=>(P0_ k_ ∨ w.heap.size ≤ k_)) v0_ r∧Below w0.heap.size w0 w'∧Kept w w' (fun k_=>P0_ k_):=by
 induction k using Nat.strongRecOn with
 | _ k ih =>
 intro P0_ u9000_ l0 a1 r w0 w hB ho0 h
 cases k with
 | zero=>exact absurd h (by simp [impl_drop.f])
 | succ k =>
 simp only [impl_drop.f] at h
 have hu32:=Try.underlying32
 have HO0:=Aside0.mk (show Kd.R k32 32 w w0.heap.size (fun k_=>(P0_ k_ ∨ w.heap.size ≤ k_)) u9000_ l0 from Kd.R_mono ho0 (fun k_ hk=>(.inl hk)))
 have HK:=Aside0.mk (Kept.refl w (fun k_=>P0_ k_))
 have HW0:=Aside0.mk hB.size
 have HB:=Aside0.mk hB
 clear hB
 have H:(impl_drop.l0 k l0 a1 (wrap64 ((l0.length:Int) - 1))) = some r:=h
 clear h
 have H':=Aside0.mk H
 clear H
 obtain ⟨Ao3,co3,eo3⟩:=Kd.R_slice HO0.out
 subst eo3
 go_enter Try.func80,Try.ntmps80
 go_wp2
 go_loopg [0,5] k (fun kq v0 v5 w'=>∃ (x0_1:List (S32)) (x5_1:Int),v5 = .int .i64 x5_1∧Aside0 (impl_drop.l0 kq x0_1 a1 x5_1 = some r)∧Aside0 (kq ≤ k)∧Aside0 (Kd.R k32 32 w' w0.heap.size (fun k_=>(P0_ k_ ∨ w.heap.size ≤ k_)) v0 x0_1)∧Aside0 (Kept w w' (fun k_=>P0_ k_))∧Aside0 (Below w0.heap.size w0 w'))
 case atStart=>exact ⟨(l0),(wrap64 ((l0.length:Int) - 1)),(by first | rfl | (simp;done) | (simp [*];done)),H',⟨Nat.le_refl _⟩,⟨by (with_reducible repeat (first | apply Kd.R_alloc | apply Kd.R_drewN | apply Kd.R_drew));exact HO0.out⟩,⟨by repeat (first | (with_reducible first | exact HK.out | apply Kept.alloc | apply Kept.drewN | apply Kept.drew) | exact HK.out)⟩,⟨by repeat (first | (with_reducible first | exact HB.out | apply below_alloc | apply pw_below_drewN | apply below_drew1) | exact HB.out)⟩⟩
 case round =>
  clear H'
  try clear p2
  obtain ⟨x0_1,x5_1,rfl,HA,HK1,HO_0,HK,HB⟩:=hrel
  cases gk with
  | zero=>exact absurd HA.out (by simp [impl_drop.l0])
  | succ k1 =>
   have H:=HA.out
   clear HA
   simp only [impl_drop.l0] at H
   by_cases c4:x5_1 > a1
   ·rw [if_pos c4] at H
    have c4b0:decide (a1 < x5_1) = true:=decide_eq_true c4
    clear c4
    by_cases c5:x5_1 < (x0_1.length:Int)
    ·rw [if_pos c5] at H
     have c5b0:decide (x5_1 < (x0_1.length:Int)) = true:=decide_eq_true c5
     clear c5
     by_cases c6:0 ≤ a1
     ·rw [if_pos c6] at H
      have c6b0:decide (0 ≤ a1) = true:=decide_eq_true c6
      clear c6
      by_cases c7:a1 < (x0_1.length:Int)
      ·rw [if_pos c7] at H
       have c7b0:decide (a1 < (x0_1.length:Int)) = true:=decide_eq_true c7
       clear c7
       by_cases c8:0 ≤ x5_1
       ·rw [if_pos c8] at H
        have c8b0:decide (0 ≤ x5_1) = true:=decide_eq_true c8
        clear c8
        replace H:=Option.bind_eq_some_iff.mp H
        obtain ⟨t639,A90,H⟩:=H
        replace H:(if t639 = true then ((impl_drop.f k1 x0_1 x5_1).bind fun t640=>(impl_drop.l0 k1 t640 a1 (wrap64 (x5_1 - 1)))) else (impl_drop.l0 k1 x0_1 a1 (wrap64 (x5_1 - 1)))) = some r:=H
        have A9:=Aside0.mk A90
        clear A90
        by_cases c10:t639 = true
        ·subst c10
         have H1:((impl_drop.f k1 x0_1 x5_1).bind fun t640=>(impl_drop.l0 k1 t640 a1 (wrap64 (x5_1 - 1)))) = some r:=by rw [if_pos rfl] at H;exact H
         clear H
         have H:=H1
         clear H1
         replace H:=Option.bind_eq_some_iff.mp H
         obtain ⟨t640,A110,H⟩:=H
         replace H:(impl_drop.l0 k1 t640 a1 (wrap64 (x5_1 - 1))) = some r:=H
         have A11:=Aside0.mk A110
         clear A110
         have H':=Aside0.mk H
         clear H
         try go_wp2
         have n0_:=Aside0.mk (Kd.R_drew HO_0.out)
         have n1_:=Aside0.mk (Kept.drew HK.out)
         have n2_:=Aside0.mk (below_drew1 HB.out)
         clear HO_0
         clear HK
         clear HB
         have HO_0:=n0_
         have HK:=n1_
         have HB:=n2_
         clear n0_ n1_ n2_
         obtain ⟨Ao13,co13,eo13⟩:=Kd.R_slice HO_0.out
         (first | subst eo13 | (injection eo13 with f1_ f2_ f3_;have f4_:=f1_.symm;have f5_:=f3_.symm;clear f1_ f2_ f3_;subst f4_;subst f5_))
         have p637:0 ≤ (a1:Int):=of_decide_eq_true (by first | (with_reducible assumption) | assumption)
         have q637:a1 < (x0_1.length:Int):=of_decide_eq_true (by first | (with_reducible assumption) | assumption)
         obtain ⟨ad637,e637,hx637_0,hx637_1⟩:=at_T32 (Kd.R_reads' HO_0.out).2.2 a1 p637 q637
         cases e637
         replace p637:=eq_true p637
         replace q637:=eq_true q637
         have p638:0 ≤ (x5_1:Int):=of_decide_eq_true (by first | (with_reducible assumption) | assumption)
         have q638:x5_1 < (x0_1.length:Int):=of_decide_eq_true (by first | (with_reducible assumption) | assumption)
         obtain ⟨ad638,e638,hx638_0,hx638_1⟩:=at_T32 (Kd.R_reads' HO_0.out).2.2 x5_1 p638 q638
         obtain rfl:ad637 = ad638:=(by injection e638)
         replace p638:=eq_true p638
         replace q638:=eq_true q638
         refine start_ (n:=15) (S:=fun w'=>w'.cell? (ad637.add ((a1).toNat * 2)) = some (.int .i64 ((rd_T32 x0_1 a1).f0))∧w'.cell? ⟨(ad637.add ((a1).toNat * 2)).block,(ad637.add ((a1).toNat * 2)).off + 1,none⟩ = some (.int .i64 ((rd_T32 x0_1 a1).f1))∧w'.cell? (ad637.add ((x5_1).toNat * 2)) = some (.int .i64 ((rd_T32 x0_1 x5_1).f0))∧w'.cell? ⟨(ad637.add ((x5_1).toNat * 2)).block,(ad637.add ((x5_1).toNat * 2)).off + 1,none⟩ = some (.int .i64 ((rd_T32 x0_1 x5_1).f1))) (ds:=[]) #[false,false,false,false,false,false,false,false,false,false,false,false,false,false,false] (by kernel_rfl) rfl rfl ⟨hx637_0,hx637_1,hx638_0,hx638_1⟩ (fun hHeld=>?_);refine with_tabW impl_drop.tab4 impl_drop.bits4 (fun HT_ HW_=>?_)
         generalize wr.drew = w12 at HO_0 HK HB hx637_0 hx637_1 hx638_0 hx638_1 hHeld ⊢
         refine pure_ (i:=0) (N:=some 14) (v:=?_) (a':=?_) #[true,false,false,false,false,false,false,false,false,false,false,false,false,false,false] rfl rfl (any_of HT_.out (by kernel_rfl)) (fun _ _ _ h=>h) (Or.inl ⟨by rfl,?_⟩) ?_ ?_
         rotate_left;·intro w';go_simp;with_reducible rfl
         rotate_left;·simp only [Act.put,List.setIfInBounds_toArray,List.set_cons_zero,List.set_cons_succ,i64_w,i32_w];rfl
         refine pure_ (i:=1) (N:=some 15) (v:=?_) (a':=?_) #[true,true,false,false,false,false,false,false,false,false,false,false,false,false,false] rfl rfl (any_of HT_.out (by kernel_rfl)) (fun _ _ _ h=>h) (Or.inl ⟨by rfl,?_⟩) ?_ ?_
         rotate_left;·intro w';go_simp;with_reducible rfl
         rotate_left;·simp only [Act.put,List.setIfInBounds_toArray,List.set_cons_zero,List.set_cons_succ,i64_w,i32_w];rfl
         refine pure_ (i:=2) (N:=some 16) (v:=?_) (a':=?_) #[true,true,true,false,false,false,false,false,false,false,false,false,false,false,false] rfl rfl (any_of HT_.out (by kernel_rfl)) (fun _ _ _ h=>h) (Or.inl ⟨by rfl,?_⟩) ?_ ?_
         rotate_left;·intro w';go_simp;with_reducible rfl
         rotate_left;·simp only [Act.put,List.setIfInBounds_toArray,List.set_cons_zero,List.set_cons_succ,i64_w,i32_w];rfl
         refine pure_ (i:=3) (N:=some 17) (v:=?_) (a':=?_) #[true,true,true,true,false,false,false,false,false,false,false,false,false,false,false] rfl rfl (any_of HT_.out (by kernel_rfl)) (fun _ _ _ h=>h) (Or.inl ⟨by rfl,?_⟩) ?_ ?_
         rotate_left;·intro w';go_simp;with_reducible rfl
         rotate_left;·simp only [Act.put,List.setIfInBounds_toArray,List.set_cons_zero,List.set_cons_succ,i64_w,i32_w];rfl
         refine pure_ (i:=4) (N:=some 18) (v:=?_) (a':=?_) #[true,true,true,true,true,false,false,false,false,false,false,false,false,false,false] rfl rfl (any_of HT_.out (by kernel_rfl)) (fun _ _ _ h=>h) (Or.inl ⟨by rfl,?_⟩) ?_ ?_
         rotate_left;·intro w';go_simp;with_reducible rfl
         rotate_left;·simp only [Act.put,List.setIfInBounds_toArray,List.set_cons_zero,List.set_cons_succ,i64_w,i32_w];rfl
         refine pure_ (i:=5) (N:=some 19) (v:=?_) (a':=?_) #[true,true,true,true,true,true,false,false,false,false,false,false,false,false,false] rfl rfl (any_of HT_.out (by kernel_rfl)) (fun _ _ _ h=>h) (Or.inl ⟨by rfl,?_⟩) ?_ ?_
         rotate_left;·intro w';go_simp;with_reducible rfl
         rotate_left;·simp only [Act.put,List.setIfInBounds_toArray,List.set_cons_zero,List.set_cons_succ,i64_w,i32_w];rfl
         refine pure_ (i:=6) (N:=some 20) (v:=?_) (a':=?_) #[true,true,true,true,true,true,true,false,false,false,false,false,false,false,false] rfl rfl (any_of HT_.out (by kernel_rfl)) (fun _ _ _ h=>h) (Or.inl ⟨by rfl,?_⟩) ?_ ?_
         rotate_left;·intro w';go_simp;with_reducible rfl
         rotate_left;·simp only [Act.put,List.setIfInBounds_toArray,List.set_cons_zero,List.set_cons_succ,i64_w,i32_w];rfl
         refine pure_ (i:=7) (N:=some 21) (v:=?_) (a':=?_) #[true,true,true,true,true,true,true,true,false,false,false,false,false,false,false] rfl rfl (any_of HT_.out (by kernel_rfl)) (fun _ _ _ h=>h) (Or.inl ⟨by rfl,?_⟩) ?_ ?_
         rotate_left;·intro w';go_simp;with_reducible rfl
         rotate_left;·simp only [Act.put,List.setIfInBounds_toArray,List.set_cons_zero,List.set_cons_succ,i64_w,i32_w];rfl
         refine pure_ (i:=9) (N:=some 23) (v:=?_) (a':=?_) #[true,true,true,true,true,true,true,true,false,true,false,false,false,false,false] rfl rfl (any_of HT_.out (by kernel_rfl)) (fun _ _ _ h=>h) (Or.inl ⟨by rfl,?_⟩) ?_ ?_
         rotate_left;·intro w';go_simp;with_reducible rfl
         rotate_left;·simp only [Act.put,List.setIfInBounds_toArray,List.set_cons_zero,List.set_cons_succ,i64_w,i32_w];rfl
         refine pure_ (i:=10) (N:=some 24) (v:=?_) (a':=?_) #[true,true,true,true,true,true,true,true,false,true,true,false,false,false,false] rfl rfl (any_of HT_.out (by kernel_rfl)) (fun _ _ _ h=>h) (Or.inl ⟨by rfl,?_⟩) ?_ ?_
         rotate_left;·intro w';go_simp;with_reducible rfl
         rotate_left;·simp only [Act.put,List.setIfInBounds_toArray,List.set_cons_zero,List.set_cons_succ,i64_w,i32_w];rfl
         refine pure_ (i:=11) (N:=some 25) (v:=?_) (a':=?_) #[true,true,true,true,true,true,true,true,false,true,true,true,false,false,false] rfl rfl (any_of HT_.out (by kernel_rfl)) (fun _ _ _ h=>h) (Or.inl ⟨by rfl,?_⟩) ?_ ?_
         rotate_left;·intro w';go_simp;with_reducible rfl
         rotate_left;·simp only [Act.put,List.setIfInBounds_toArray,List.set_cons_zero,List.set_cons_succ,i64_w,i32_w];rfl
         refine take_ (i:=8) (N:=some 22) (v:=?_) (a':=?_) #[true,true,true,true,true,true,true,true,true,true,true,true,false,false,false] rfl rfl (take_ofW HT_.out HW_.out (by kernel_rfl)) (fun _ _ _ h=>h) (Or.inl ⟨by rfl,?_⟩) hHeld ?_ ?_
         rotate_left;·rintro w' ⟨s0,s1,s2,s3⟩;go_simp;with_reducible rfl
         rotate_left;·simp only [Act.put,List.setIfInBounds_toArray,List.set_cons_zero,List.set_cons_succ,i64_w,i32_w];rfl
         refine take_ (i:=12) (N:=some 26) (v:=?_) (a':=?_) #[true,true,true,true,true,true,true,true,true,true,true,true,true,false,false] rfl rfl (take_ofW HT_.out HW_.out (by kernel_rfl)) (fun _ _ _ h=>h) (Or.inl ⟨by rfl,?_⟩) hHeld ?_ ?_
         rotate_left;·rintro w' ⟨s0,s1,s2,s3⟩;go_simp;with_reducible rfl
         rotate_left;·simp only [Act.put,List.setIfInBounds_toArray,List.set_cons_zero,List.set_cons_succ,i64_w,i32_w];rfl
         refine one_ (i:=13) (N:=some 27) #[true,true,true,true,true,true,true,true,true,true,true,true,true,true,false] rfl rfl (one_of HT_.out (by kernel_rfl)) (by decide) (fun K hK=>?_)
         refine goes_ Try.func68 (by kernel_rfl) rfl #[.agg #[.int .i64 ((rd_T32 x0_1 a1).f0),.int .i64 ((rd_T32 x0_1 a1).f1)],.agg #[.int .i64 ((rd_T32 x0_1 x5_1).f0),.int .i64 ((rd_T32 x0_1 x5_1).f1)]] (by rfl) rfl rfl (by (try simp only [List.map_toArray,List.map_cons,List.map_nil]);first | done | rfl | (simp only [List.length_drop,List.length_take];rfl)) ?_
         with_reducible refine (impl_linked.calls ((rd_T32 x0_1 a1).f0) ((rd_T32 x0_1 a1).f1) ((rd_T32 x0_1 x5_1).f0) ((rd_T32 x0_1 x5_1).f1) true _ A9.out).mono ?_
         rintro e w14 ⟨rfl,hb⟩
         have HS0_:=(hb.cell (World.block_lt_of_cell? _ _ (hHeld.1))).trans (hHeld.1)
         have HS1_:=(hb.cell (World.block_lt_of_cell? _ _ (hHeld.2.1))).trans (hHeld.2.1)
         have HS2_:=(hb.cell (World.block_lt_of_cell? _ _ (hHeld.2.2.1))).trans (hHeld.2.2.1)
         have HS3_:=(hb.cell (World.block_lt_of_cell? _ _ (hHeld.2.2.2))).trans (hHeld.2.2.2)
         refine ⟨_,rfl,?_⟩
         have n0_:=Aside0.mk (Kd.R_below (by (with_reducible repeat (first | apply Kd.R_alloc | apply Kd.R_drewN | apply Kd.R_drew));exact HO_0.out) hb)
         have n1_:=Aside0.mk (Kept.below (S:=(fun k_=>P0_ k_)) (by repeat (first | (with_reducible first | exact HK.out | apply Kept.alloc | apply Kept.drewN | apply Kept.drew) | exact HK.out)) hb)
         have n2_:=Aside0.mk (below_step (by repeat (first | (with_reducible first | exact HB.out | apply below_alloc | apply pw_below_drewN | apply below_drew1) | exact HB.out)) hb)
         clear HO_0
         clear HK
         clear HB
         have HO_0:=n0_
         have HK:=n1_
         have HB:=n2_
         clear n0_ n1_ n2_
         (try clear hb)
         (try clear hb2)
         (try clear hk)
         (try clear hi)
         refine hK.out _ _ ⟨HS0_,HS1_,HS2_,HS3_⟩ (fun hHeld=>?_)
         clear hK K
         refine norm_ (a':=?_) ?_ ?_
         rotate_left
         ·show Act.put _ (some 27) _ = _
          simp only [Act.put,List.setIfInBounds_toArray,List.set_cons_zero,List.set_cons_succ,i64_w,i32_w]
          rfl
         refine pure_ (i:=14) (N:=some 28) (v:=?_) (a':=?_) #[true,true,true,true,true,true,true,true,true,true,true,true,true,true,true] rfl rfl (any_of HT_.out (by kernel_rfl)) (fun _ _ _ h=>h) (Or.inl ⟨by rfl,?_⟩) ?_ ?_
         rotate_left;·intro w';go_simp;with_reducible rfl
         rotate_left;·simp only [Act.put,List.setIfInBounds_toArray,List.set_cons_zero,List.set_cons_succ,i64_w,i32_w];rfl
         refine done_ (done_of HT_.out (by kernel_rfl)) ?_
         try go_wp2_with (first | ((with_reducible refine gate_callee (f:=80) rfl ?_);refine goesL_ (some 31) rfl rfl Try.func80 (by kernel_rfl) rfl #[.slice (some ad637) x0_1.length co13,.int .i64 x5_1] rfl (by (try simp only [List.map_toArray,List.map_cons,List.map_nil]);first | done | rfl | (simp only [List.length_drop,List.length_take];rfl)) ?_;(with_reducible refine (ih k1 (by have:=HK1.out;omega) (fun k_=>some k_ = (.slice (some ad637) x0_1.length co13:Value).ownBlock) (.slice (some ad637) x0_1.length co13) x0_1 x5_1 t640 w0 _ ?side1 ?side2 A11.out).mono ?_);(case side1=>repeat (first | (with_reducible first | exact HB.out | apply below_alloc | apply pw_below_drewN | apply below_drew1) | exact HB.out));(case side2=>exact Kd.R_tight rfl HO_0.out);rintro e w15 ⟨v641,rfl,ho0,hb,hkp⟩;refine ⟨_,rfl,?_⟩;have n0_:=Aside0.mk (Kd.R_mono (ok':=fun k_=>(P0_ k_ ∨ w.heap.size ≤ k_)) ho0 (fun k_ hk_=>Or.elim hk_ (fun hs_=>(HO_0.out.1 k_ (hs_).symm)) (fun hn_=>(.inr (Nat.le_trans (by first | exact HK.out.1 | exact (show Kept w _ (fun k_=>P0_ k_) from by repeat (first | (with_reducible first | exact HK.out | apply Kept.alloc | apply Kept.drewN | apply Kept.drew) | exact HK.out)).1) hn_)))));have n1_:=Aside0.mk (Kept.then_ (S:=(fun k_=>P0_ k_)) (by repeat (first | (with_reducible first | exact HK.out | apply Kept.alloc | apply Kept.drewN | apply Kept.drew) | exact HK.out)) hkp (fun k_ hs_=>(fun e_=>(HO_0.out.1 k_ e_.symm)) hs_));have n2_:=Aside0.mk (hb);clear HK;clear HB;clear HO_0;have HO642:=n0_;have HK:=n1_;have HB:=n2_;clear n0_ n1_ n2_;(try clear hb);(try clear hkp);(try clear ho0)))
         go_roundg k1
         case measure=>have:=HK1.out;omega
         case rel=>exact ⟨(t640),(wrap64 (x5_1 - 1)),(by first | rfl | (simp;done) | (simp [*];done)),H',⟨by have:=HK1.out;omega⟩,⟨by (with_reducible repeat (first | apply Kd.R_alloc | apply Kd.R_drewN | apply Kd.R_drew));exact HO642.out⟩,⟨by repeat (first | (with_reducible first | exact HK.out | apply Kept.alloc | apply Kept.drewN | apply Kept.drew) | exact HK.out)⟩,⟨by repeat (first | (with_reducible first | exact HB.out | apply below_alloc | apply pw_below_drewN | apply below_drew1) | exact HB.out)⟩⟩
        ·replace c10:=Bool.eq_false_iff.mpr c10
         subst c10
         have H1:(impl_drop.l0 k1 x0_1 a1 (wrap64 (x5_1 - 1))) = some r:=by rw [if_neg (show ¬ (false = true) by decide)] at H;exact H
         clear H
         have H:=H1
         clear H1
         have H':=Aside0.mk H
         clear H
         try go_wp2
         have n0_:=Aside0.mk (Kd.R_drew HO_0.out)
         have n1_:=Aside0.mk (Kept.drew HK.out)
         have n2_:=Aside0.mk (below_drew1 HB.out)
         clear HO_0
         clear HK
         clear HB
         have HO_0:=n0_
         have HK:=n1_
         have HB:=n2_
         clear n0_ n1_ n2_
         obtain ⟨Ao17,co17,eo17⟩:=Kd.R_slice HO_0.out
         (first | subst eo17 | (injection eo17 with f1_ f2_ f3_;have f4_:=f1_.symm;have f5_:=f3_.symm;clear f1_ f2_ f3_;subst f4_;subst f5_))
         have p637:0 ≤ (a1:Int):=of_decide_eq_true (by first | (with_reducible assumption) | assumption)
         have q637:a1 < (x0_1.length:Int):=of_decide_eq_true (by first | (with_reducible assumption) | assumption)
         obtain ⟨ad637,e637,hx637_0,hx637_1⟩:=at_T32 (Kd.R_reads' HO_0.out).2.2 a1 p637 q637
         cases e637
         replace p637:=eq_true p637
         replace q637:=eq_true q637
         have p638:0 ≤ (x5_1:Int):=of_decide_eq_true (by first | (with_reducible assumption) | assumption)
         have q638:x5_1 < (x0_1.length:Int):=of_decide_eq_true (by first | (with_reducible assumption) | assumption)
         obtain ⟨ad638,e638,hx638_0,hx638_1⟩:=at_T32 (Kd.R_reads' HO_0.out).2.2 x5_1 p638 q638
         obtain rfl:ad637 = ad638:=(by injection e638)
         replace p638:=eq_true p638
         replace q638:=eq_true q638
         refine start_ (n:=15) (S:=fun w'=>w'.cell? (ad637.add ((a1).toNat * 2)) = some (.int .i64 ((rd_T32 x0_1 a1).f0))∧w'.cell? ⟨(ad637.add ((a1).toNat * 2)).block,(ad637.add ((a1).toNat * 2)).off + 1,none⟩ = some (.int .i64 ((rd_T32 x0_1 a1).f1))∧w'.cell? (ad637.add ((x5_1).toNat * 2)) = some (.int .i64 ((rd_T32 x0_1 x5_1).f0))∧w'.cell? ⟨(ad637.add ((x5_1).toNat * 2)).block,(ad637.add ((x5_1).toNat * 2)).off + 1,none⟩ = some (.int .i64 ((rd_T32 x0_1 x5_1).f1))) (ds:=[]) #[false,false,false,false,false,false,false,false,false,false,false,false,false,false,false] (by kernel_rfl) rfl rfl ⟨hx637_0,hx637_1,hx638_0,hx638_1⟩ (fun hHeld=>?_);refine with_tabW impl_drop.tab4 impl_drop.bits4 (fun HT_ HW_=>?_)
         generalize wr.drew = w16 at HO_0 HK HB hx637_0 hx637_1 hx638_0 hx638_1 hHeld ⊢
         refine pure_ (i:=0) (N:=some 14) (v:=?_) (a':=?_) #[true,false,false,false,false,false,false,false,false,false,false,false,false,false,false] rfl rfl (any_of HT_.out (by kernel_rfl)) (fun _ _ _ h=>h) (Or.inl ⟨by rfl,?_⟩) ?_ ?_
         rotate_left;·intro w';go_simp;with_reducible rfl
         rotate_left;·simp only [Act.put,List.setIfInBounds_toArray,List.set_cons_zero,List.set_cons_succ,i64_w,i32_w];rfl
         refine pure_ (i:=1) (N:=some 15) (v:=?_) (a':=?_) #[true,true,false,false,false,false,false,false,false,false,false,false,false,false,false] rfl rfl (any_of HT_.out (by kernel_rfl)) (fun _ _ _ h=>h) (Or.inl ⟨by rfl,?_⟩) ?_ ?_
         rotate_left;·intro w';go_simp;with_reducible rfl
         rotate_left;·simp only [Act.put,List.setIfInBounds_toArray,List.set_cons_zero,List.set_cons_succ,i64_w,i32_w];rfl
         refine pure_ (i:=2) (N:=some 16) (v:=?_) (a':=?_) #[true,true,true,false,false,false,false,false,false,false,false,false,false,false,false] rfl rfl (any_of HT_.out (by kernel_rfl)) (fun _ _ _ h=>h) (Or.inl ⟨by rfl,?_⟩) ?_ ?_
         rotate_left;·intro w';go_simp;with_reducible rfl
         rotate_left;·simp only [Act.put,List.setIfInBounds_toArray,List.set_cons_zero,List.set_cons_succ,i64_w,i32_w];rfl
         refine pure_ (i:=3) (N:=some 17) (v:=?_) (a':=?_) #[true,true,true,true,false,false,false,false,false,false,false,false,false,false,false] rfl rfl (any_of HT_.out (by kernel_rfl)) (fun _ _ _ h=>h) (Or.inl ⟨by rfl,?_⟩) ?_ ?_
         rotate_left;·intro w';go_simp;with_reducible rfl
         rotate_left;·simp only [Act.put,List.setIfInBounds_toArray,List.set_cons_zero,List.set_cons_succ,i64_w,i32_w];rfl
         refine pure_ (i:=4) (N:=some 18) (v:=?_) (a':=?_) #[true,true,true,true,true,false,false,false,false,false,false,false,false,false,false] rfl rfl (any_of HT_.out (by kernel_rfl)) (fun _ _ _ h=>h) (Or.inl ⟨by rfl,?_⟩) ?_ ?_
         rotate_left;·intro w';go_simp;with_reducible rfl
         rotate_left;·simp only [Act.put,List.setIfInBounds_toArray,List.set_cons_zero,List.set_cons_succ,i64_w,i32_w];rfl
         refine pure_ (i:=5) (N:=some 19) (v:=?_) (a':=?_) #[true,true,true,true,true,true,false,false,false,false,false,false,false,false,false] rfl rfl (any_of HT_.out (by kernel_rfl)) (fun _ _ _ h=>h) (Or.inl ⟨by rfl,?_⟩) ?_ ?_
         rotate_left;·intro w';go_simp;with_reducible rfl
         rotate_left;·simp only [Act.put,List.setIfInBounds_toArray,List.set_cons_zero,List.set_cons_succ,i64_w,i32_w];rfl
         refine pure_ (i:=6) (N:=some 20) (v:=?_) (a':=?_) #[true,true,true,true,true,true,true,false,false,false,false,false,false,false,false] rfl rfl (any_of HT_.out (by kernel_rfl)) (fun _ _ _ h=>h) (Or.inl ⟨by rfl,?_⟩) ?_ ?_
         rotate_left;·intro w';go_simp;with_reducible rfl
         rotate_left;·simp only [Act.put,List.setIfInBounds_toArray,List.set_cons_zero,List.set_cons_succ,i64_w,i32_w];rfl
         refine pure_ (i:=7) (N:=some 21) (v:=?_) (a':=?_) #[true,true,true,true,true,true,true,true,false,false,false,false,false,false,false] rfl rfl (any_of HT_.out (by kernel_rfl)) (fun _ _ _ h=>h) (Or.inl ⟨by rfl,?_⟩) ?_ ?_
         rotate_left;·intro w';go_simp;with_reducible rfl
         rotate_left;·simp only [Act.put,List.setIfInBounds_toArray,List.set_cons_zero,List.set_cons_succ,i64_w,i32_w];rfl
         refine pure_ (i:=9) (N:=some 23) (v:=?_) (a':=?_) #[true,true,true,true,true,true,true,true,false,true,false,false,false,false,false] rfl rfl (any_of HT_.out (by kernel_rfl)) (fun _ _ _ h=>h) (Or.inl ⟨by rfl,?_⟩) ?_ ?_
         rotate_left;·intro w';go_simp;with_reducible rfl
         rotate_left;·simp only [Act.put,List.setIfInBounds_toArray,List.set_cons_zero,List.set_cons_succ,i64_w,i32_w];rfl
         refine pure_ (i:=10) (N:=some 24) (v:=?_) (a':=?_) #[true,true,true,true,true,true,true,true,false,true,true,false,false,false,false] rfl rfl (any_of HT_.out (by kernel_rfl)) (fun _ _ _ h=>h) (Or.inl ⟨by rfl,?_⟩) ?_ ?_
         rotate_left;·intro w';go_simp;with_reducible rfl
         rotate_left;·simp only [Act.put,List.setIfInBounds_toArray,List.set_cons_zero,List.set_cons_succ,i64_w,i32_w];rfl
         refine pure_ (i:=11) (N:=some 25) (v:=?_) (a':=?_) #[true,true,true,true,true,true,true,true,false,true,true,true,false,false,false] rfl rfl (any_of HT_.out (by kernel_rfl)) (fun _ _ _ h=>h) (Or.inl ⟨by rfl,?_⟩) ?_ ?_
         rotate_left;·intro w';go_simp;with_reducible rfl
         rotate_left;·simp only [Act.put,List.setIfInBounds_toArray,List.set_cons_zero,List.set_cons_succ,i64_w,i32_w];rfl
         refine take_ (i:=8) (N:=some 22) (v:=?_) (a':=?_) #[true,true,true,true,true,true,true,true,true,true,true,true,false,false,false] rfl rfl (take_ofW HT_.out HW_.out (by kernel_rfl)) (fun _ _ _ h=>h) (Or.inl ⟨by rfl,?_⟩) hHeld ?_ ?_
         rotate_left;·rintro w' ⟨s0,s1,s2,s3⟩;go_simp;with_reducible rfl
         rotate_left;·simp only [Act.put,List.setIfInBounds_toArray,List.set_cons_zero,List.set_cons_succ,i64_w,i32_w];rfl
         refine take_ (i:=12) (N:=some 26) (v:=?_) (a':=?_) #[true,true,true,true,true,true,true,true,true,true,true,true,true,false,false] rfl rfl (take_ofW HT_.out HW_.out (by kernel_rfl)) (fun _ _ _ h=>h) (Or.inl ⟨by rfl,?_⟩) hHeld ?_ ?_
         rotate_left;·rintro w' ⟨s0,s1,s2,s3⟩;go_simp;with_reducible rfl
         rotate_left;·simp only [Act.put,List.setIfInBounds_toArray,List.set_cons_zero,List.set_cons_succ,i64_w,i32_w];rfl
         refine one_ (i:=13) (N:=some 27) #[true,true,true,true,true,true,true,true,true,true,true,true,true,true,false] rfl rfl (one_of HT_.out (by kernel_rfl)) (by decide) (fun K hK=>?_)
         refine goes_ Try.func68 (by kernel_rfl) rfl #[.agg #[.int .i64 ((rd_T32 x0_1 a1).f0),.int .i64 ((rd_T32 x0_1 a1).f1)],.agg #[.int .i64 ((rd_T32 x0_1 x5_1).f0),.int .i64 ((rd_T32 x0_1 x5_1).f1)]] (by rfl) rfl rfl (by (try simp only [List.map_toArray,List.map_cons,List.map_nil]);first | done | rfl | (simp only [List.length_drop,List.length_take];rfl)) ?_
         with_reducible refine (impl_linked.calls ((rd_T32 x0_1 a1).f0) ((rd_T32 x0_1 a1).f1) ((rd_T32 x0_1 x5_1).f0) ((rd_T32 x0_1 x5_1).f1) false _ A9.out).mono ?_
         rintro e w18 ⟨rfl,hb⟩
         have HS0_:=(hb.cell (World.block_lt_of_cell? _ _ (hHeld.1))).trans (hHeld.1)
         have HS1_:=(hb.cell (World.block_lt_of_cell? _ _ (hHeld.2.1))).trans (hHeld.2.1)
         have HS2_:=(hb.cell (World.block_lt_of_cell? _ _ (hHeld.2.2.1))).trans (hHeld.2.2.1)
         have HS3_:=(hb.cell (World.block_lt_of_cell? _ _ (hHeld.2.2.2))).trans (hHeld.2.2.2)
         refine ⟨_,rfl,?_⟩
         have n0_:=Aside0.mk (Kd.R_below (by (with_reducible repeat (first | apply Kd.R_alloc | apply Kd.R_drewN | apply Kd.R_drew));exact HO_0.out) hb)
         have n1_:=Aside0.mk (Kept.below (S:=(fun k_=>P0_ k_)) (by repeat (first | (with_reducible first | exact HK.out | apply Kept.alloc | apply Kept.drewN | apply Kept.drew) | exact HK.out)) hb)
         have n2_:=Aside0.mk (below_step (by repeat (first | (with_reducible first | exact HB.out | apply below_alloc | apply pw_below_drewN | apply below_drew1) | exact HB.out)) hb)
         clear HO_0
         clear HK
         clear HB
         have HO_0:=n0_
         have HK:=n1_
         have HB:=n2_
         clear n0_ n1_ n2_
         (try clear hb)
         (try clear hb2)
         (try clear hk)
         (try clear hi)
         refine hK.out _ _ ⟨HS0_,HS1_,HS2_,HS3_⟩ (fun hHeld=>?_)
         clear hK K
         refine norm_ (a':=?_) ?_ ?_
         rotate_left
         ·show Act.put _ (some 27) _ = _
          simp only [Act.put,List.setIfInBounds_toArray,List.set_cons_zero,List.set_cons_succ,i64_w,i32_w]
          rfl
         refine pure_ (i:=14) (N:=some 28) (v:=?_) (a':=?_) #[true,true,true,true,true,true,true,true,true,true,true,true,true,true,true] rfl rfl (any_of HT_.out (by kernel_rfl)) (fun _ _ _ h=>h) (Or.inl ⟨by rfl,?_⟩) ?_ ?_
         rotate_left;·intro w';go_simp;with_reducible rfl
         rotate_left;·simp only [Act.put,List.setIfInBounds_toArray,List.set_cons_zero,List.set_cons_succ,i64_w,i32_w];rfl
         refine done_ (done_of HT_.out (by kernel_rfl)) ?_
         try go_wp2
         go_roundg k1
         case measure=>have:=HK1.out;omega
         case rel=>exact ⟨(x0_1),(wrap64 (x5_1 - 1)),(by first | rfl | (simp;done) | (simp [*];done)),H',⟨by have:=HK1.out;omega⟩,⟨by (with_reducible repeat (first | apply Kd.R_alloc | apply Kd.R_drewN | apply Kd.R_drew));exact HO_0.out⟩,⟨by repeat (first | (with_reducible first | exact HK.out | apply Kept.alloc | apply Kept.drewN | apply Kept.drew) | exact HK.out)⟩,⟨by repeat (first | (with_reducible first | exact HB.out | apply below_alloc | apply pw_below_drewN | apply below_drew1) | exact HB.out)⟩⟩
       ·rw [if_neg c8] at H
        exact absurd H (by simp)
      ·rw [if_neg c7] at H
       exact absurd H (by simp)
     ·rw [if_neg c6] at H
      exact absurd H (by simp)
    ·rw [if_neg c5] at H
     have c5b0:decide (x5_1 < (x0_1.length:Int)) = false:=decide_eq_false c5
     clear c5
     have H':=Aside0.mk H
     clear H
     try go_wp2
     have n0_:=Aside0.mk (Kd.R_drew HO_0.out)
     have n1_:=Aside0.mk (Kept.drew HK.out)
     have n2_:=Aside0.mk (below_drew1 HB.out)
     clear HO_0
     clear HK
     clear HB
     have HO_0:=n0_
     have HK:=n1_
     have HB:=n2_
     clear n0_ n1_ n2_
     obtain ⟨Ao20,co20,eo20⟩:=Kd.R_slice HO_0.out
     (first | subst eo20 | (injection eo20 with f1_ f2_ f3_;have f4_:=f1_.symm;have f5_:=f3_.symm;clear f1_ f2_ f3_;subst f4_;subst f5_))
     refine start_ (n:=15) (S:=fun w'=>True) (ds:=[]) #[false,false,false,false,false,false,false,false,false,false,false,false,false,false,false] (by kernel_rfl) rfl rfl trivial (fun hHeld=>?_);refine with_tabW impl_drop.tab4 impl_drop.bits4 (fun HT_ HW_=>?_)
     generalize wr.drew = w19 at HO_0 HK HB hHeld ⊢
     refine pure_ (i:=0) (N:=some 14) (v:=?_) (a':=?_) #[true,false,false,false,false,false,false,false,false,false,false,false,false,false,false] rfl rfl (any_of HT_.out (by kernel_rfl)) (fun _ _ _ h=>h) (Or.inl ⟨by rfl,?_⟩) ?_ ?_
     rotate_left;·intro w';go_simp;with_reducible rfl
     rotate_left;·simp only [Act.put,List.setIfInBounds_toArray,List.set_cons_zero,List.set_cons_succ,i64_w,i32_w];rfl
     refine pure_ (i:=1) (N:=some 15) (v:=?_) (a':=?_) #[true,true,false,false,false,false,false,false,false,false,false,false,false,false,false] rfl rfl (any_of HT_.out (by kernel_rfl)) (fun _ _ _ h=>h) (Or.inl ⟨by rfl,?_⟩) ?_ ?_
     rotate_left;·intro w';go_simp;with_reducible rfl
     rotate_left;·simp only [Act.put,List.setIfInBounds_toArray,List.set_cons_zero,List.set_cons_succ,i64_w,i32_w];rfl
     refine pure_ (i:=2) (N:=some 16) (v:=?_) (a':=?_) #[true,true,true,false,false,false,false,false,false,false,false,false,false,false,false] rfl rfl (any_of HT_.out (by kernel_rfl)) (fun _ _ _ h=>h) (Or.inl ⟨by rfl,?_⟩) ?_ ?_
     rotate_left;·intro w';go_simp;with_reducible rfl
     rotate_left;·simp only [Act.put,List.setIfInBounds_toArray,List.set_cons_zero,List.set_cons_succ,i64_w,i32_w];rfl
     refine pure_ (i:=3) (N:=some 17) (v:=?_) (a':=?_) #[true,true,true,true,false,false,false,false,false,false,false,false,false,false,false] rfl rfl (any_of HT_.out (by kernel_rfl)) (fun _ _ _ h=>h) (Or.inl ⟨by rfl,?_⟩) ?_ ?_
     rotate_left;·intro w';go_simp;with_reducible rfl
     rotate_left;·simp only [Act.put,List.setIfInBounds_toArray,List.set_cons_zero,List.set_cons_succ,i64_w,i32_w];rfl
     refine pure_ (i:=4) (N:=some 18) (v:=?_) (a':=?_) #[true,true,true,true,true,false,false,false,false,false,false,false,false,false,false] rfl rfl (any_of HT_.out (by kernel_rfl)) (fun _ _ _ h=>h) (Or.inl ⟨by rfl,?_⟩) ?_ ?_
     rotate_left;·intro w';go_simp;with_reducible rfl
     rotate_left;·simp only [Act.put,List.setIfInBounds_toArray,List.set_cons_zero,List.set_cons_succ,i64_w,i32_w];rfl
     refine pure_ (i:=5) (N:=some 19) (v:=undef) (a':=?_) #[true,true,true,true,true,true,false,false,false,false,false,false,false,false,false] rfl rfl (any_of HT_.out (by kernel_rfl)) (fun _ _ _ h=>h) (Or.inr ⟨by rfl,rfl⟩) ?_ ?_
     rotate_left;·simp only [Act.put,List.setIfInBounds_toArray,List.set_cons_zero,List.set_cons_succ,i64_w,i32_w];rfl
     refine pure_ (i:=6) (N:=some 20) (v:=undef) (a':=?_) #[true,true,true,true,true,true,true,false,false,false,false,false,false,false,false] rfl rfl (any_of HT_.out (by kernel_rfl)) (fun _ _ _ h=>h) (Or.inr ⟨by rfl,rfl⟩) ?_ ?_
     rotate_left;·simp only [Act.put,List.setIfInBounds_toArray,List.set_cons_zero,List.set_cons_succ,i64_w,i32_w];rfl
     refine pure_ (i:=7) (N:=some 21) (v:=undef) (a':=?_) #[true,true,true,true,true,true,true,true,false,false,false,false,false,false,false] rfl rfl (any_of HT_.out (by kernel_rfl)) (fun _ _ _ h=>h) (Or.inr ⟨by rfl,rfl⟩) ?_ ?_
     rotate_left;·simp only [Act.put,List.setIfInBounds_toArray,List.set_cons_zero,List.set_cons_succ,i64_w,i32_w];rfl
     refine pure_ (i:=8) (N:=some 22) (v:=undef) (a':=?_) #[true,true,true,true,true,true,true,true,true,false,false,false,false,false,false] rfl rfl (any_of HT_.out (by kernel_rfl)) (fun _ _ _ h=>h) (Or.inr ⟨by rfl,rfl⟩) ?_ ?_
     rotate_left;·simp only [Act.put,List.setIfInBounds_toArray,List.set_cons_zero,List.set_cons_succ,i64_w,i32_w];rfl
     refine pure_ (i:=9) (N:=some 23) (v:=undef) (a':=?_) #[true,true,true,true,true,true,true,true,true,true,false,false,false,false,false] rfl rfl (any_of HT_.out (by kernel_rfl)) (fun _ _ _ h=>h) (Or.inr ⟨by rfl,rfl⟩) ?_ ?_
     rotate_left;·simp only [Act.put,List.setIfInBounds_toArray,List.set_cons_zero,List.set_cons_succ,i64_w,i32_w];rfl
     refine pure_ (i:=10) (N:=some 24) (v:=undef) (a':=?_) #[true,true,true,true,true,true,true,true,true,true,true,false,false,false,false] rfl rfl (any_of HT_.out (by kernel_rfl)) (fun _ _ _ h=>h) (Or.inr ⟨by rfl,rfl⟩) ?_ ?_
     rotate_left;·simp only [Act.put,List.setIfInBounds_toArray,List.set_cons_zero,List.set_cons_succ,i64_w,i32_w];rfl
     refine pure_ (i:=11) (N:=some 25) (v:=undef) (a':=?_) #[true,true,true,true,true,true,true,true,true,true,true,true,false,false,false] rfl rfl (any_of HT_.out (by kernel_rfl)) (fun _ _ _ h=>h) (Or.inr ⟨by rfl,rfl⟩) ?_ ?_
     rotate_left;·simp only [Act.put,List.setIfInBounds_toArray,List.set_cons_zero,List.set_cons_succ,i64_w,i32_w];rfl
     refine pure_ (i:=12) (N:=some 26) (v:=undef) (a':=?_) #[true,true,true,true,true,true,true,true,true,true,true,true,true,false,false] rfl rfl (any_of HT_.out (by kernel_rfl)) (fun _ _ _ h=>h) (Or.inr ⟨by rfl,rfl⟩) ?_ ?_
     rotate_left;·simp only [Act.put,List.setIfInBounds_toArray,List.set_cons_zero,List.set_cons_succ,i64_w,i32_w];rfl
     refine pure_ (i:=13) (N:=some 27) (v:=undef) (a':=?_) #[true,true,true,true,true,true,true,true,true,true,true,true,true,true,false] rfl rfl (any_of HT_.out (by kernel_rfl)) (fun _ _ _ h=>h) (Or.inr ⟨by rfl,rfl⟩) ?_ ?_
     rotate_left;·simp only [Act.put,List.setIfInBounds_toArray,List.set_cons_zero,List.set_cons_succ,i64_w,i32_w];rfl
     refine pure_ (i:=14) (N:=some 28) (v:=?_) (a':=?_) #[true,true,true,true,true,true,true,true,true,true,true,true,true,true,true] rfl rfl (any_of HT_.out (by kernel_rfl)) (fun _ _ _ h=>h) (Or.inl ⟨by rfl,?_⟩) ?_ ?_
     rotate_left;·intro w';go_simp;with_reducible rfl
     rotate_left;·simp only [Act.put,List.setIfInBounds_toArray,List.set_cons_zero,List.set_cons_succ,i64_w,i32_w];rfl
     refine done_ (done_of HT_.out (by kernel_rfl)) ?_
     try go_wp2
     go_roundg k1
     case measure=>have:=HK1.out;omega
     case rel=>exact ⟨(x0_1),(wrap64 (x5_1 - 1)),(by first | rfl | (simp;done) | (simp [*];done)),H',⟨by have:=HK1.out;omega⟩,⟨by (with_reducible repeat (first | apply Kd.R_alloc | apply Kd.R_drewN | apply Kd.R_drew));exact HO_0.out⟩,⟨by repeat (first | (with_reducible first | exact HK.out | apply Kept.alloc | apply Kept.drewN | apply Kept.drew) | exact HK.out)⟩,⟨by repeat (first | (with_reducible first | exact HB.out | apply below_alloc | apply pw_below_drewN | apply below_drew1) | exact HB.out)⟩⟩
   ·rw [if_neg c4] at H
    have c4b0:decide (a1 < x5_1) = false:=decide_eq_false c4
    clear c4
    replace H:=Option.bind_eq_some_iff.mp H
    obtain ⟨t634,A210,H⟩:=H
    replace H:(some t634) = some r:=H
    have A21:=Aside0.mk A210
    clear A210
    obtain rfl:=Option.some.inj H
    obtain ⟨Ao22,co22,eo22⟩:=Kd.R_slice HO_0.out
    subst eo22
    go_wp2_with (first | ((with_reducible refine gate_callee (f:=69) rfl ?_);refine goesL_ (some 36) rfl rfl Try.func69 (by kernel_rfl) rfl #[.slice Ao22 x0_1.length co22,.int .i64 a1,.int .i64 (wrap64 (a1 + 1))] rfl (by (try simp only [List.map_toArray,List.map_cons,List.map_nil]);first | done | rfl | (simp only [List.length_drop,List.length_take];rfl)) ?_;(with_reducible refine (impl_Event_69.calls (fun k_=>some k_ = (.slice Ao22 x0_1.length co22:Value).ownBlock) (.slice Ao22 x0_1.length co22) x0_1 a1 (wrap64 (a1 + 1)) t634 w0 _ ?side1 ?side2 A21.out).mono ?_);(case side1=>repeat (first | (with_reducible first | exact HB.out | apply below_alloc | apply pw_below_drewN | apply below_drew1) | exact HB.out));(case side2=>exact Kd.R_tight rfl HO_0.out);rintro e w23 ⟨v635,rfl,ho0,hb,hkp⟩;refine ⟨_,rfl,?_⟩;have n0_:=Aside0.mk (Kd.R_mono (ok':=fun k_=>(P0_ k_ ∨ w.heap.size ≤ k_)) ho0 (fun k_ hk_=>Or.elim hk_ (fun hs_=>(HO_0.out.1 k_ (hs_).symm)) (fun hn_=>(.inr (Nat.le_trans (by first | exact HK.out.1 | exact (show Kept w _ (fun k_=>P0_ k_) from by repeat (first | (with_reducible first | exact HK.out | apply Kept.alloc | apply Kept.drewN | apply Kept.drew) | exact HK.out)).1) hn_)))));have n1_:=Aside0.mk (Kept.then_ (S:=(fun k_=>P0_ k_)) (by repeat (first | (with_reducible first | exact HK.out | apply Kept.alloc | apply Kept.drewN | apply Kept.drew) | exact HK.out)) hkp (fun k_ hs_=>(fun e_=>(HO_0.out.1 k_ e_.symm)) hs_));have n2_:=Aside0.mk (hb);clear HK;clear HB;clear HO_0;have HO636:=n0_;have HK:=n1_;have HB:=n2_;clear n0_ n1_ n2_;(try clear hb);(try clear hkp);(try clear ho0)))
    go_ret
    exact ⟨_,by first | rfl | (simp [errW_none,errW_some] <;> rfl) | (simp [*,errW_none,errW_some] <;> rfl),by (with_reducible repeat (first | apply Kd.R_alloc | apply Kd.R_drewN | apply Kd.R_drew));exact HO636.out,by repeat (first | (with_reducible first | exact HB.out | apply below_alloc | apply pw_below_drewN | apply below_drew1) | exact HB.out),by repeat (first | (with_reducible first | exact HK.out | apply Kept.alloc | apply Kept.drewN | apply Kept.drew) | exact HK.out)⟩
def impl_HistoryAt.l0:Nat → List (List Int) → List Int → List (S32) → Int → Int → Option (List Int × Bool)
 | 0,_,_,_,_,_=>none
 | k + 1,x0,x6,x15,x16,x17=>if x17 < x16 then (if 0 ≤ x17 then (if x17 < (x15.length:Int) then ((impl_mayDo.f x0 x6 ((rd_T32 x15 x17).f0) ((rd_T32 x15 x17).f1)).bind fun t233=>(if t233 = true then (if 0 ≤ ((rd_T32 x15 x17).f0) then (if ((rd_T32 x15 x17).f0) < (x6.length:Int) then ((some (x6.set (((rd_T32 x15 x17).f0):Int).toNat (wrap64 ((rd x6 ((rd_T32 x15 x17).f0)) + 1)):List Int)).bind fun y235=>(if ((rd_T32 x15 x17).f1) ≥ 0 then (if 0 ≤ ((rd_T32 x15 x17).f1) then (if ((rd_T32 x15 x17).f1) < (x6.length:Int) then (impl_HistoryAt.l0 k x0 (y235.set (((rd_T32 x15 x17).f1):Int).toNat (wrap64 ((rd y235 ((rd_T32 x15 x17).f1)) + 1))) x15 x16 (wrap64 (x17 + 1))) else (none)) else (none)) else (impl_HistoryAt.l0 k x0 y235 x15 x16 (wrap64 (x17 + 1))))) else (none)) else (none)) else (some (([]:List Int),false)))) else (none)) else (none)) else (some (x6,true))
def impl_HistoryAt.f (k:Nat) (l0:List (List Int)) (l1:List (S32)):Option (List Int × Bool):=(impl_threadsOk.f l0).bind fun t227=>(if t227 = true then (if 0 ≤ (l0.length:Int) then (if ((l0.length:Int):Int).toNat ≤ 35184372088832 then (impl_HistoryAt.l0 k l0 (List.replicate ((l0.length:Int):Int).toNat 0) l1 (l1.length:Int) 0) else (none)) else (none)) else (some (([]:List Int),false)))
theorem impl_HistoryAt.mono_l:∀ k,(∀ y0 y1 y2 y3 y4,LeO (impl_HistoryAt.l0 k y0 y1 y2 y3 y4) (impl_HistoryAt.l0 (k + 1) y0 y1 y2 y3 y4))
 | 0=>fun _ _ _ _ _ r h=>by simp [impl_HistoryAt.l0] at h
 | k + 1=>by
  have ih0:=impl_HistoryAt.mono_l k
  ·intro y0 y1 y2 y3 y4
   unfold impl_HistoryAt.l0
   repeat' first
   | (with_reducible exact ih0 _ _ _ _ _)
   | (with_reducible exact LeO.refl _)
   | (with_reducible exact LeO.none _)
   | (with_reducible refine LeO.ite ?_ ?_)
   | (with_reducible refine LeO.bind ?_ (fun _=>?_))
   | exact ih0 _ _ _ _ _
   | exact LeO.none _
   | refine LeO.ite ?_ ?_
   | refine LeO.bind ?_ (fun _=>?_)
theorem impl_HistoryAt.mono:∀ a0 a1 k,LeO (impl_HistoryAt.f k a0 a1) (impl_HistoryAt.f (k + 1) a0 a1):=by
 intro a0 a1 k
 have ih0:=impl_HistoryAt.mono_l k
 unfold impl_HistoryAt.f
 repeat' first
   | (with_reducible exact ih0 _ _ _ _ _)
   | (with_reducible exact LeO.refl _)
   | (with_reducible exact LeO.none _)
   | (with_reducible refine LeO.ite ?_ ?_)
   | (with_reducible refine LeO.bind ?_ (fun _=>?_))
   | exact ih0 _ _ _ _ _
   | exact LeO.none _
   | refine LeO.ite ?_ ?_
   | refine LeO.bind ?_ (fun _=>?_)
set_option maxHeartbeats 8000000 in
set_option maxRecDepth 100000 in
theorem impl_HistoryAt.calls (k:Nat) (A0:Option Addr) (c0:Nat) (l0:List (List Int)) (A1:Option Addr) (c1:Nat) (l1:List (S32)) (r1:List Int) (r2:Bool) (w:World) (hr0:Kd.C (Kd.slice 3 (Kd.int .i64)) w A0 l0.length l0) (hc0:l0.length ≤ c0) (hr1:Kd.C k32 w A1 l1.length l1) (hc1:l1.length ≤ c1) (h:impl_HistoryAt.f k l0 l1 = some (r1,r2)) :
  Calls Try.prog 19 #[.slice A0 l0.length c0,.slice A1 l1.length c1] w fun e w'=>∃ v0_:Value,e = .returned (.tuple #[v0_,.bool r2])∧Kd.R (Kd.int .i64) 3 w' w.heap.size (fun _=>True) v0_ r1∧Below w.heap.size w w':=by
 have hu32:=Try.underlying32
 have HR0:=Aside0.mk hr0
 have HC0:=Aside0.mk hc0
 clear hr0 hc0
 have HR1:=Aside0.mk hr1
 have HC1:=Aside0.mk hc1
 clear hr1 hc1
 have HB:=Aside0.mk (Below.refl w.heap.size w)
 have H:((impl_threadsOk.f l0).bind fun t227=>(if t227 = true then (if 0 ≤ (l0.length:Int) then (if ((l0.length:Int):Int).toNat ≤ 35184372088832 then (impl_HistoryAt.l0 k l0 (List.replicate ((l0.length:Int):Int).toNat 0) l1 (l1.length:Int) 0) else (none)) else (none)) else (some (([]:List Int),false)))) = some (r1,r2):=h
 clear h
 replace H:=Option.bind_eq_some_iff.mp H
 obtain ⟨t227,A30,H⟩:=H
 replace H:(if t227 = true then (if 0 ≤ (l0.length:Int) then (if ((l0.length:Int):Int).toNat ≤ 35184372088832 then (impl_HistoryAt.l0 k l0 (List.replicate ((l0.length:Int):Int).toNat 0) l1 (l1.length:Int) 0) else (none)) else (none)) else (some (([]:List Int),false))) = some (r1,r2):=H
 have A3:=Aside0.mk A30
 clear A30
 by_cases c4:t227 = true
 ·subst c4
  have H1:(if 0 ≤ (l0.length:Int) then (if ((l0.length:Int):Int).toNat ≤ 35184372088832 then (impl_HistoryAt.l0 k l0 (List.replicate ((l0.length:Int):Int).toNat 0) l1 (l1.length:Int) 0) else (none)) else (none)) = some (r1,r2):=by rw [if_pos rfl] at H;exact H
  clear H
  have H:=H1
  clear H1
  by_cases c5:0 ≤ (l0.length:Int)
  ·rw [if_pos c5] at H
   have c5b0:=eq_true c5
   have c5b1:decide (0 ≤ (l0.length:Int)) = true:=decide_eq_true c5
   clear c5
   by_cases c6:((l0.length:Int):Int).toNat ≤ 35184372088832
   ·rw [if_pos c6] at H
    have c6b0:=eq_true c6
    have c6b1:decide (((l0.length:Int):Int).toNat ≤ 35184372088832) = true:=decide_eq_true c6
    clear c6
    obtain ⟨y228,hy228⟩:∃ y_:List Int,y_ = (List.replicate ((l0.length:Int):Int).toNat 0):=⟨_,rfl⟩
    replace H:(impl_HistoryAt.l0 k l0 y228 l1 (l1.length:Int) 0) = some (r1,r2):=by first | (rw [hy228];with_reducible exact H) | (have H2_:=(Option.bind_some _ _).symm.trans H;rw [hy228];with_reducible exact H2_) | (have H2_:=(Option.bind_some _ _).symm.trans H;with_reducible exact H2_) | with_reducible exact H | (rw [hy228];exact H) | exact H
    have Ny228:=Aside0.mk hy228
    clear hy228
    have H':=Aside0.mk H
    clear H
    go_enter Try.func19,Try.ntmps19
    go_wp2_with (first | ((with_reducible refine gate_callee (f:=56) rfl ?_);refine goesL_ (some 10) rfl rfl Try.func56 (by kernel_rfl) rfl #[.slice A0 l0.length c0] rfl (by (try simp only [List.map_toArray,List.map_cons,List.map_nil]);first | done | rfl | (simp only [List.length_drop,List.length_take];rfl)) ?_;(with_reducible refine (impl_threadsOk.calls _ _ l0 true _ ?side1 ?side2 A3.out).mono ?_);(case side1=>repeat (first | exact HR0.out | (with_reducible refine Kd.C_alloc ?_ _) | (with_reducible refine Kd.C_drewN ?_ _) | (with_reducible refine Kd.C_drew ?_)));(case side2=>exact HC0.out);rintro e w7 ⟨rfl,hb⟩;refine ⟨_,rfl,?_⟩;have n0_:=Aside0.mk (below_step (by repeat (first | (with_reducible first | exact HB.out | apply below_alloc | apply pw_below_drewN | apply below_drew1) | exact HB.out)) hb);clear HB;have HB:=n0_;clear n0_;(try clear hb);(try clear hb2);(try clear hk);(try clear hi)) | ((with_reducible refine gate_dst (N:=14) rfl ?_);refine Kd.R_make (Kd.int .i64) _ 3 rfl (N:=14) rfl 27 _ _ rfl (l0.length:Int) rfl rfl Try.underlying27 (.int .i64 0) 8 info3 rfl (by decide) (by omega) 0 (ok:=fun _=>True) (okp:=fun _=>True) rfl (fun _ hk=>hk) trivial (of_decide_eq_true (by first | (with_reducible assumption) | assumption)) (Nat.le_trans (Nat.mul_le_mul_right _ (of_decide_eq_true (by first | (with_reducible assumption) | assumption):(l0.length:Int).toNat ≤ 35184372088832)) (by omega)) (Below.refl _ _) (Nat.le_refl _) ?_;intro v229 w8 ho9 hb hg_ hnew_;clear hg_ hnew_;(first | rw [← Ny228.out] at ho9 | (simp only [Int.reduceToNat] at ho9;rw [← Ny228.out] at ho9));have n0_:=Aside0.mk (Kd.R_lower ho9 (below_size (by repeat (first | (with_reducible first | exact HB.out | apply below_alloc | apply pw_below_drewN | apply below_drew1) | exact HB.out))));have n1_:=Aside0.mk (below_step (by repeat (first | (with_reducible first | exact HB.out | apply below_alloc | apply pw_below_drewN | apply below_drew1) | exact HB.out)) hb);clear HB;have HO230:=n0_;have HB:=n1_;clear n0_ n1_;clear hb ho9))
    go_loopg [17] k (fun kq v17 w'=>∃ (x6_1:List Int) (x17_1:Int),v17 = .int .i64 x17_1∧Aside0 (impl_HistoryAt.l0 kq l0 x6_1 l1 (l1.length:Int) x17_1 = some (r1,r2))∧Aside0 (kq ≤ k)∧Aside0 (Kd.R (Kd.int .i64) 3 w' w.heap.size (fun _=>True) v229 x6_1)∧Aside0 (Below w.heap.size w w'))
    case atStart=>exact ⟨(y228),(0),(by first | rfl | (simp;done) | (simp [*];done)),H',⟨Nat.le_refl _⟩,⟨by (with_reducible repeat (first | apply Kd.R_alloc | apply Kd.R_drewN | apply Kd.R_drew));exact HO230.out⟩,⟨by repeat (first | (with_reducible first | exact HB.out | apply below_alloc | apply pw_below_drewN | apply below_drew1) | exact HB.out)⟩⟩
    case round =>
     clear H'
     try clear c1
     try clear p2
     try clear c4
     try clear c5
     try clear c5b0
     try clear c5b1
     try clear c6
     try clear c6b0
     try clear c6b1
     obtain ⟨x6_1,x17_1,rfl,HA,HK1,HO_6,HB⟩:=hrel
     cases gk with
     | zero=>exact absurd HA.out (by simp [impl_HistoryAt.l0])
     | succ k1 =>
      have H:=HA.out
      clear HA
      simp only [impl_HistoryAt.l0] at H
      by_cases c10:x17_1 < (l1.length:Int)
      ·rw [if_pos c10] at H
       have c10b0:decide (x17_1 < (l1.length:Int)) = true:=decide_eq_true c10
       clear c10
       by_cases c11:0 ≤ x17_1
       ·rw [if_pos c11] at H
        have c11b0:decide (0 ≤ x17_1) = true:=decide_eq_true c11
        clear c11
        by_cases c12:x17_1 < (l1.length:Int)
        ·rw [if_pos c12] at H
         have c12b0:decide (x17_1 < (l1.length:Int)) = true:=decide_eq_true c12
         clear c12
         replace H:=Option.bind_eq_some_iff.mp H
         obtain ⟨t233,A130,H⟩:=H
         replace H:(if t233 = true then (if 0 ≤ ((rd_T32 l1 x17_1).f0) then (if ((rd_T32 l1 x17_1).f0) < (x6_1.length:Int) then ((some (x6_1.set (((rd_T32 l1 x17_1).f0):Int).toNat (wrap64 ((rd x6_1 ((rd_T32 l1 x17_1).f0)) + 1)):List Int)).bind fun y235=>(if ((rd_T32 l1 x17_1).f1) ≥ 0 then (if 0 ≤ ((rd_T32 l1 x17_1).f1) then (if ((rd_T32 l1 x17_1).f1) < (x6_1.length:Int) then (impl_HistoryAt.l0 k1 l0 (y235.set (((rd_T32 l1 x17_1).f1):Int).toNat (wrap64 ((rd y235 ((rd_T32 l1 x17_1).f1)) + 1))) l1 (l1.length:Int) (wrap64 (x17_1 + 1))) else (none)) else (none)) else (impl_HistoryAt.l0 k1 l0 y235 l1 (l1.length:Int) (wrap64 (x17_1 + 1))))) else (none)) else (none)) else (some (([]:List Int),false))) = some (r1,r2):=H
         have A13:=Aside0.mk A130
         clear A130
         by_cases c14:t233 = true
         ·subst c14
          have H1:(if 0 ≤ ((rd_T32 l1 x17_1).f0) then (if ((rd_T32 l1 x17_1).f0) < (x6_1.length:Int) then ((some (x6_1.set (((rd_T32 l1 x17_1).f0):Int).toNat (wrap64 ((rd x6_1 ((rd_T32 l1 x17_1).f0)) + 1)):List Int)).bind fun y235=>(if ((rd_T32 l1 x17_1).f1) ≥ 0 then (if 0 ≤ ((rd_T32 l1 x17_1).f1) then (if ((rd_T32 l1 x17_1).f1) < (x6_1.length:Int) then (impl_HistoryAt.l0 k1 l0 (y235.set (((rd_T32 l1 x17_1).f1):Int).toNat (wrap64 ((rd y235 ((rd_T32 l1 x17_1).f1)) + 1))) l1 (l1.length:Int) (wrap64 (x17_1 + 1))) else (none)) else (none)) else (impl_HistoryAt.l0 k1 l0 y235 l1 (l1.length:Int) (wrap64 (x17_1 + 1))))) else (none)) else (none)) = some (r1,r2):=by rw [if_pos rfl] at H;exact H
          clear H
          have H:=H1
          clear H1
          by_cases c15:0 ≤ ((rd_T32 l1 x17_1).f0)
          ·rw [if_pos c15] at H
           have c15b0:decide (0 ≤ ((rd_T32 l1 x17_1).f0)) = true:=decide_eq_true c15
           clear c15
           by_cases c16:((rd_T32 l1 x17_1).f0) < (x6_1.length:Int)
           ·rw [if_pos c16] at H
            have c16b0:decide (((rd_T32 l1 x17_1).f0) < (x6_1.length:Int)) = true:=decide_eq_true c16
            clear c16
            obtain ⟨y235,hy235⟩:∃ y_:List Int,y_ = (x6_1.set (((rd_T32 l1 x17_1).f0):Int).toNat (wrap64 ((rd x6_1 ((rd_T32 l1 x17_1).f0)) + 1))):=⟨_,rfl⟩
            replace H:(if ((rd_T32 l1 x17_1).f1) ≥ 0 then (if 0 ≤ ((rd_T32 l1 x17_1).f1) then (if ((rd_T32 l1 x17_1).f1) < (x6_1.length:Int) then (impl_HistoryAt.l0 k1 l0 (y235.set (((rd_T32 l1 x17_1).f1):Int).toNat (wrap64 ((rd y235 ((rd_T32 l1 x17_1).f1)) + 1))) l1 (l1.length:Int) (wrap64 (x17_1 + 1))) else (none)) else (none)) else (impl_HistoryAt.l0 k1 l0 y235 l1 (l1.length:Int) (wrap64 (x17_1 + 1)))) = some (r1,r2):=by first | (rw [hy235];with_reducible exact H) | (have H2_:=(Option.bind_some _ _).symm.trans H;rw [hy235];with_reducible exact H2_) | (have H2_:=(Option.bind_some _ _).symm.trans H;with_reducible exact H2_) | with_reducible exact H | (rw [hy235];exact H) | exact H
            have Ny235:=Aside0.mk hy235
            clear hy235
            by_cases c18:((rd_T32 l1 x17_1).f1) ≥ 0
            ·rw [if_pos c18] at H
             have c18b0:decide (0 ≤ ((rd_T32 l1 x17_1).f1)) = true:=decide_eq_true c18
             clear c18
             by_cases c19:0 ≤ ((rd_T32 l1 x17_1).f1)
             ·rw [if_pos c19] at H
              have c19b0:decide (0 ≤ ((rd_T32 l1 x17_1).f1)) = true:=decide_eq_true c19
              clear c19
              by_cases c20:((rd_T32 l1 x17_1).f1) < (x6_1.length:Int)
              ·rw [if_pos c20] at H
               have c20b0:decide (((rd_T32 l1 x17_1).f1) < (x6_1.length:Int)) = true:=decide_eq_true c20
               clear c20
               obtain ⟨y237,hy237⟩:∃ y_:List Int,y_ = (y235.set (((rd_T32 l1 x17_1).f1):Int).toNat (wrap64 ((rd y235 ((rd_T32 l1 x17_1).f1)) + 1))):=⟨_,rfl⟩
               replace H:(impl_HistoryAt.l0 k1 l0 y237 l1 (l1.length:Int) (wrap64 (x17_1 + 1))) = some (r1,r2):=by first | (rw [hy237];with_reducible exact H) | (have H2_:=(Option.bind_some _ _).symm.trans H;rw [hy237];with_reducible exact H2_) | (have H2_:=(Option.bind_some _ _).symm.trans H;with_reducible exact H2_) | with_reducible exact H | (rw [hy237];exact H) | exact H
               have Ny237:=Aside0.mk hy237
               clear hy237
               have H':=Aside0.mk H
               clear H
               have p231:0 ≤ (x17_1:Int):=of_decide_eq_true (by first | (with_reducible assumption) | assumption)
               have q231:x17_1 < (l1.length:Int):=of_decide_eq_true (by first | (with_reducible assumption) | assumption)
               obtain ⟨ad231,e231,hx231_0,hx231_1⟩:=at_T32 HR1.out x17_1 p231 q231
               cases e231
               replace hx231_0:=(HB.out.cell (World.block_lt_of_cell? w _ hx231_0)).trans hx231_0
               replace hx231_1:=(HB.out.cell (World.block_lt_of_cell? w _ hx231_1)).trans hx231_1
               replace p231:=eq_true p231
               replace q231:=eq_true q231
               go_wp2_with (first | ((with_reducible refine gate_dst (N:=8) rfl ?_);refine box_event ?hg (N:=8) ?hd (cs:=#[.int .i64 0,.int .i64 0]) (t:=32) ?hr ?_;(case hd=>rfl);(case hg=>rfl);(case hr=>first | (go_simp;done) | (go_simp;rfl));intro gb232 hg w22 hbox hb;have n0_:=Aside0.mk (Kd.R_below (by (with_reducible repeat (first | apply Kd.R_alloc | apply Kd.R_drewN | apply Kd.R_drew));exact HO_6.out) hb);have n1_:=Aside0.mk (below_step (by repeat (first | (with_reducible first | exact HB.out | apply below_alloc | apply pw_below_drewN | apply below_drew1) | exact HB.out)) hb);have n2_:=Aside0.mk (hbox);have n3_:=Aside0.mk ((by rw [hg];exact (below_size (by repeat (first | (with_reducible first | exact HB.out | apply below_alloc | apply pw_below_drewN | apply below_drew1) | exact HB.out))):w.heap.size ≤ gb232));have n4_:=Aside0.mk ((by rw [hg];exact (below_size (by repeat (first | (with_reducible first | exact HB.out | apply below_alloc | apply pw_below_drewN | apply below_drew1) | exact HB.out))):w.heap.size ≤ gb232));clear HO_6;clear HB;have HO_6:=n0_;have HB:=n1_;have BK232:=n2_;have GW232:=n3_;have GE232:=n4_;clear n0_ n1_ n2_ n3_ n4_;clear hb hbox hg;have hcz23_0:w22.cell? ⟨gb232,0,none⟩ = some (.int .i64 0):=(blk_cell BK232.out 0).trans rfl;have hcz23_1:w22.cell? ⟨gb232,1,none⟩ = some (.int .i64 0):=(blk_cell BK232.out 1).trans rfl;have hfz23_0:=blk_frozen BK232.out 0;have hfz23_1:=blk_frozen BK232.out 1;obtain ⟨Ao24,co24,eo24⟩:=Kd.R_slice HO_6.out;subst eo24) | ((with_reducible refine gate_callee (f:=57) rfl ?_);refine goesL_ (some 24) rfl rfl Try.func57 (by kernel_rfl) rfl #[.slice A0 l0.length c0,.slice Ao24 x6_1.length co24,.agg #[.int .i64 ((rd_T32 l1 x17_1).f0),.int .i64 ((rd_T32 l1 x17_1).f1)]] rfl (by (try simp only [List.map_toArray,List.map_cons,List.map_nil]);first | done | rfl | (simp only [List.length_drop,List.length_take];rfl)) ?_;(with_reducible refine (impl_mayDo.calls _ _ l0 _ _ x6_1 ((rd_T32 l1 x17_1).f0) ((rd_T32 l1 x17_1).f1) true _ ?side1 ?side2 ?side3 ?side4 A13.out).mono ?_);(case side1=>exact Kd.C_below HR0.out (by repeat (first | (with_reducible first | exact HB.out | apply below_alloc | apply pw_below_drewN | apply below_drew1 | refine below_set ?_ GE232.out) | exact HB.out)));(case side2=>exact HC0.out);(case side3=>refine (Kd.R_reads' (e:=3) (base:=w.heap.size) (ok:=fun k_=>True) (n:=x6_1.length) (c:=co24) ?_).2.2;exact (by (with_reducible repeat (first | apply Kd.R_alloc | apply Kd.R_drewN | apply Kd.R_drew));exact (Kd.R_mono (Kd.R_far (p:=⟨gb232,1,none⟩) (Kd.R_far (p:=⟨gb232,0,none⟩) (Kd.R_types HO_6.out BK232.out (by decide)) (fun _ hk=>hk.2) (.int .i64 ((rd_T32 l1 x17_1).f0))) (fun _ hk=>hk.2) (.int .i64 ((rd_T32 l1 x17_1).f1))) (fun _ h_=>h_.1))));(case side4=>exact (Kd.R_reads' HO_6.out).2.1);rintro e w25 ⟨rfl,hb⟩;refine ⟨_,rfl,?_⟩;have n0_:=Aside0.mk (Kd.R_below (by (with_reducible repeat (first | apply Kd.R_alloc | apply Kd.R_drewN | apply Kd.R_drew));exact (Kd.R_mono (Kd.R_far (p:=⟨gb232,1,none⟩) (Kd.R_far (p:=⟨gb232,0,none⟩) (Kd.R_types HO_6.out BK232.out (by decide)) (fun _ hk=>hk.2) (.int .i64 ((rd_T32 l1 x17_1).f0))) (fun _ hk=>hk.2) (.int .i64 ((rd_T32 l1 x17_1).f1))) (fun _ h_=>h_.1))) hb);have n1_:=Aside0.mk (blk_below (g:=gb232) (o:=.cells #[.int .i64 ((rd_T32 l1 x17_1).f0),.int .i64 ((rd_T32 l1 x17_1).f1)] 32 (0,0)) (by (with_reducible repeat (first | refine blk_drewN ?_ _ | refine blk_drew ?_ | refine blk_alloc ?_ _));refine blk_put (cs:=#[.int .i64 ((rd_T32 l1 x17_1).f0),.int .i64 0]) ?_ 1 _ rfl;(with_reducible repeat (first | refine blk_drewN ?_ _ | refine blk_drew ?_ | refine blk_alloc ?_ _));refine blk_put (cs:=#[.int .i64 0,.int .i64 0]) ?_ 0 _ rfl;(with_reducible repeat (first | refine blk_drewN ?_ _ | refine blk_drew ?_ | refine blk_alloc ?_ _));exact BK232.out) hb);have n2_:=Aside0.mk (below_step (by repeat (first | (with_reducible first | exact HB.out | apply below_alloc | apply pw_below_drewN | apply below_drew1 | refine below_set ?_ GE232.out) | exact HB.out)) hb);clear HO_6;clear BK232;clear HB;have HO_6:=n0_;have BK232:=n1_;have HB:=n2_;clear n0_ n1_ n2_;(try clear hb);(try clear hb2);(try clear hk);(try clear hi);have hcz26_0:w25.cell? ⟨gb232,0,none⟩ = some (.int .i64 ((rd_T32 l1 x17_1).f0)):=(blk_cell BK232.out 0).trans rfl;have hcz26_1:w25.cell? ⟨gb232,1,none⟩ = some (.int .i64 ((rd_T32 l1 x17_1).f1)):=(blk_cell BK232.out 1).trans rfl;have hfz26_0:=blk_frozen BK232.out 0;have hfz26_1:=blk_frozen BK232.out 1;have p234:0 ≤ (((rd_T32 l1 x17_1).f0):Int):=of_decide_eq_true (by first | (with_reducible assumption) | assumption);have q234:((rd_T32 l1 x17_1).f0) < (x6_1.length:Int):=of_decide_eq_true (by first | (with_reducible assumption) | assumption);obtain ⟨ad234,e234,hx234_0⟩:=Kd.at_int (Kd.R_reads' HO_6.out).2.2 ((rd_T32 l1 x17_1).f0) p234 q234;cases e234;replace p234:=eq_true p234;replace q234:=eq_true q234;have p17:0 ≤ (((rd_T32 l1 x17_1).f0):Int):=of_decide_eq_true (by first | (with_reducible assumption) | assumption);have q17:(((rd_T32 l1 x17_1).f0):Int) < ((x6_1.length:Int):Int):=of_decide_eq_true (by first | (with_reducible assumption) | assumption);obtain ⟨go17,co17,eo17,gb17,gl17,cl17,HG17⟩:=Kd.R_form HO_6.out (by omega);(first | cases eo17 | (injection eo17 with ea_ en_ ec_;(first | subst ea_ | (injection ea_ with ea_;subst ea_));subst ec_;clear en_));have GB17:=Aside0.mk gb17;have GG17:=Aside0.mk HG17;clear gb17 gl17 HG17;(first | simp only [add_plain] at hx234_0 | skip);obtain ⟨hx17_0,hf17_0⟩:=Kd.R_celln 0 HO_6.out (((rd_T32 l1 x17_1).f0):Int) p17 q17;replace p17:=eq_true p17;replace q17:=eq_true q17;obtain ⟨hy27_,hz27_⟩:=Kd.R_celln 0 HO_6.out (((rd_T32 l1 x17_1).f0):Int) (of_decide_eq_true (by first | (with_reducible assumption) | assumption)) (of_decide_eq_true (by first | (with_reducible assumption) | assumption));have HP27:=Kd.R_putg HO_6.out (((rd_T32 l1 x17_1).f0):Int) (wrap64 ((rd x6_1 ((rd_T32 l1 x17_1).f0)) + 1))) | ((with_reducible refine gate_store (t:=3) (p:=32) rfl ?_);refine store_event (t:=3) (p:=32) (v:=?vo_w28) (w1:=(w25.setCell ⟨go17,(((rd_T32 l1 x17_1).f0):Int).toNat,none⟩ (.int .i64 (wrap64 ((rd x6_1 ((rd_T32 l1 x17_1).f0)) + 1))))) ?hg ?ho ?hn ?hr ?_;(case ho=>rfl);(case hg=>rfl);(case hn=>rfl);(case hr=>first | (go_simp;done) | (go_simp;rfl));intro w28 hw;have hg:w25.grownBy w28 (some go17):=(by rw [hw];exact HP27.2);have hp_:Kd.R (Kd.int .i64) 3 w28 w.heap.size (fun _=>True) (.slice (some ⟨go17,0,none⟩) x6_1.length co24) y235:=(by rw [hw,Ny235.out];exact HP27.1);clear HP27;have n0_:=Aside0.mk (hp_);have n1_:=Aside0.mk (blk_grown (g:=gb232) (o:=.cells #[.int .i64 ((rd_T32 l1 x17_1).f0),.int .i64 ((rd_T32 l1 x17_1).f1)] 32 (0,0)) (by (with_reducible repeat (first | refine blk_drewN ?_ _ | refine blk_drew ?_ | refine blk_alloc ?_ _));exact BK232.out) hg (Kd.R_ne HO_6.out BK232.out (by decide)));have n2_:=Aside0.mk ((by rw [hw];exact below_set (HB.out) GB17.out:Below w.heap.size w w28));clear HO_6;clear BK232;clear HB;have HO_6:=n0_;have BK232:=n1_;have HB:=n2_;clear n0_ n1_ n2_;clear hg hw hp_;have hcz29_0:w28.cell? ⟨gb232,0,none⟩ = some (.int .i64 ((rd_T32 l1 x17_1).f0)):=(blk_cell BK232.out 0).trans rfl;have hcz29_1:w28.cell? ⟨gb232,1,none⟩ = some (.int .i64 ((rd_T32 l1 x17_1).f1)):=(blk_cell BK232.out 1).trans rfl;have hfz29_0:=blk_frozen BK232.out 0;have hfz29_1:=blk_frozen BK232.out 1;have p236:0 ≤ (((rd_T32 l1 x17_1).f1):Int):=of_decide_eq_true (by first | (with_reducible assumption) | assumption);have q236:((rd_T32 l1 x17_1).f1) < (y235.length:Int):=(by have h_:(((rd_T32 l1 x17_1).f1):Int) < ((x6_1.length:Int):Int):=of_decide_eq_true (by first | (with_reducible assumption) | assumption);first | (have e_:=(Kd.R_reads' HO_6.out).1;omega) | simpa only [Ny235.out,List.length_set] using h_);have ql236:((((rd_T32 l1 x17_1).f1):Int) < ((x6_1.length:Int):Int)) = True:=eq_true (of_decide_eq_true (by first | (with_reducible assumption) | assumption));obtain ⟨ad236,e236,hx236_0⟩:=Kd.at_int (Kd.R_reads' HO_6.out).2.2 ((rd_T32 l1 x17_1).f1) p236 q236;obtain rfl:(⟨go17,0,none⟩:Addr) = ad236:=(by injection e236);(first | simp only [add_plain] at hx236_0 | simp only [add_at] at hx236_0 | simp only [Addr.add,Nat.zero_add] at hx236_0 | skip);replace p236:=eq_true p236;replace q236:=eq_true q236;have p21:0 ≤ (((rd_T32 l1 x17_1).f1):Int):=of_decide_eq_true (by first | (with_reducible assumption) | assumption);have q21:(((rd_T32 l1 x17_1).f1):Int) < ((x6_1.length:Int):Int):=of_decide_eq_true (by first | (with_reducible assumption) | assumption);obtain ⟨hx21_0,hf21_0⟩:=Kd.R_celln 0 HO_6.out (((rd_T32 l1 x17_1).f1):Int) p21 q21;replace p21:=eq_true p21;replace q21:=eq_true q21;obtain ⟨hy30_,hz30_⟩:=Kd.R_celln 0 HO_6.out (((rd_T32 l1 x17_1).f1):Int) (of_decide_eq_true (by first | (with_reducible assumption) | assumption)) (of_decide_eq_true (by first | (with_reducible assumption) | assumption));have HP30:=Kd.R_putg HO_6.out (((rd_T32 l1 x17_1).f1):Int) (wrap64 ((rd y235 ((rd_T32 l1 x17_1).f1)) + 1))) | ((with_reducible refine gate_store (t:=3) (p:=42) rfl ?_);refine store_event (t:=3) (p:=42) (v:=?vo_w31) (w1:=(w28.setCell ⟨go17,(((rd_T32 l1 x17_1).f1):Int).toNat,none⟩ (.int .i64 (wrap64 ((rd y235 ((rd_T32 l1 x17_1).f1)) + 1))))) ?hg ?ho ?hn ?hr ?_;(case ho=>rfl);(case hg=>rfl);(case hn=>rfl);(case hr=>first | (go_simp;done) | (go_simp;rfl));intro w31 hw;have hg:w28.grownBy w31 (some go17):=(by rw [hw];exact HP30.2);have hp_:Kd.R (Kd.int .i64) 3 w31 w.heap.size (fun _=>True) (.slice (some ⟨go17,0,none⟩) x6_1.length co24) y237:=(by rw [hw,Ny237.out];exact HP30.1);clear HP30;have n0_:=Aside0.mk (hp_);have n1_:=Aside0.mk (blk_grown (g:=gb232) (o:=.cells #[.int .i64 ((rd_T32 l1 x17_1).f0),.int .i64 ((rd_T32 l1 x17_1).f1)] 32 (0,0)) (by (with_reducible repeat (first | refine blk_drewN ?_ _ | refine blk_drew ?_ | refine blk_alloc ?_ _));exact BK232.out) hg (Kd.R_ne HO_6.out BK232.out (by decide)));have n2_:=Aside0.mk ((by rw [hw];exact below_set (HB.out) GB17.out:Below w.heap.size w w31));clear HO_6;clear BK232;clear HB;have HO_6:=n0_;have BK232:=n1_;have HB:=n2_;clear n0_ n1_ n2_;clear hg hw hp_))
               go_roundg k1
               case measure=>have:=HK1.out;omega
               case rel=>exact ⟨(y237),(wrap64 (x17_1 + 1)),(by first | rfl | (simp;done) | (simp [*];done)),H',⟨by have:=HK1.out;omega⟩,⟨by (with_reducible repeat (first | apply Kd.R_alloc | apply Kd.R_drewN | apply Kd.R_drew));exact HO_6.out⟩,⟨by repeat (first | (with_reducible first | exact HB.out | apply below_alloc | apply pw_below_drewN | apply below_drew1 | refine below_set ?_ GE232.out) | exact HB.out)⟩⟩
              ·rw [if_neg c20] at H
               exact absurd H (by simp)
             ·rw [if_neg c19] at H
              exact absurd H (by simp)
            ·rw [if_neg c18] at H
             have c18b0:decide (0 ≤ ((rd_T32 l1 x17_1).f1)) = false:=decide_eq_false c18
             clear c18
             have H':=Aside0.mk H
             clear H
             have p231:0 ≤ (x17_1:Int):=of_decide_eq_true (by first | (with_reducible assumption) | assumption)
             have q231:x17_1 < (l1.length:Int):=of_decide_eq_true (by first | (with_reducible assumption) | assumption)
             obtain ⟨ad231,e231,hx231_0,hx231_1⟩:=at_T32 HR1.out x17_1 p231 q231
             cases e231
             replace hx231_0:=(HB.out.cell (World.block_lt_of_cell? w _ hx231_0)).trans hx231_0
             replace hx231_1:=(HB.out.cell (World.block_lt_of_cell? w _ hx231_1)).trans hx231_1
             replace p231:=eq_true p231
             replace q231:=eq_true q231
             go_wp2_with (first | ((with_reducible refine gate_dst (N:=8) rfl ?_);refine box_event ?hg (N:=8) ?hd (cs:=#[.int .i64 0,.int .i64 0]) (t:=32) ?hr ?_;(case hd=>rfl);(case hg=>rfl);(case hr=>first | (go_simp;done) | (go_simp;rfl));intro gb232 hg w32 hbox hb;have n0_:=Aside0.mk (Kd.R_below (by (with_reducible repeat (first | apply Kd.R_alloc | apply Kd.R_drewN | apply Kd.R_drew));exact HO_6.out) hb);have n1_:=Aside0.mk (below_step (by repeat (first | (with_reducible first | exact HB.out | apply below_alloc | apply pw_below_drewN | apply below_drew1) | exact HB.out)) hb);have n2_:=Aside0.mk (hbox);have n3_:=Aside0.mk ((by rw [hg];exact (below_size (by repeat (first | (with_reducible first | exact HB.out | apply below_alloc | apply pw_below_drewN | apply below_drew1) | exact HB.out))):w.heap.size ≤ gb232));have n4_:=Aside0.mk ((by rw [hg];exact (below_size (by repeat (first | (with_reducible first | exact HB.out | apply below_alloc | apply pw_below_drewN | apply below_drew1) | exact HB.out))):w.heap.size ≤ gb232));clear HO_6;clear HB;have HO_6:=n0_;have HB:=n1_;have BK232:=n2_;have GW232:=n3_;have GE232:=n4_;clear n0_ n1_ n2_ n3_ n4_;clear hb hbox hg;have hcz33_0:w32.cell? ⟨gb232,0,none⟩ = some (.int .i64 0):=(blk_cell BK232.out 0).trans rfl;have hcz33_1:w32.cell? ⟨gb232,1,none⟩ = some (.int .i64 0):=(blk_cell BK232.out 1).trans rfl;have hfz33_0:=blk_frozen BK232.out 0;have hfz33_1:=blk_frozen BK232.out 1;obtain ⟨Ao34,co34,eo34⟩:=Kd.R_slice HO_6.out;subst eo34) | ((with_reducible refine gate_callee (f:=57) rfl ?_);refine goesL_ (some 24) rfl rfl Try.func57 (by kernel_rfl) rfl #[.slice A0 l0.length c0,.slice Ao34 x6_1.length co34,.agg #[.int .i64 ((rd_T32 l1 x17_1).f0),.int .i64 ((rd_T32 l1 x17_1).f1)]] rfl (by (try simp only [List.map_toArray,List.map_cons,List.map_nil]);first | done | rfl | (simp only [List.length_drop,List.length_take];rfl)) ?_;(with_reducible refine (impl_mayDo.calls _ _ l0 _ _ x6_1 ((rd_T32 l1 x17_1).f0) ((rd_T32 l1 x17_1).f1) true _ ?side1 ?side2 ?side3 ?side4 A13.out).mono ?_);(case side1=>exact Kd.C_below HR0.out (by repeat (first | (with_reducible first | exact HB.out | apply below_alloc | apply pw_below_drewN | apply below_drew1 | refine below_set ?_ GE232.out) | exact HB.out)));(case side2=>exact HC0.out);(case side3=>refine (Kd.R_reads' (e:=3) (base:=w.heap.size) (ok:=fun k_=>True) (n:=x6_1.length) (c:=co34) ?_).2.2;exact (by (with_reducible repeat (first | apply Kd.R_alloc | apply Kd.R_drewN | apply Kd.R_drew));exact (Kd.R_mono (Kd.R_far (p:=⟨gb232,1,none⟩) (Kd.R_far (p:=⟨gb232,0,none⟩) (Kd.R_types HO_6.out BK232.out (by decide)) (fun _ hk=>hk.2) (.int .i64 ((rd_T32 l1 x17_1).f0))) (fun _ hk=>hk.2) (.int .i64 ((rd_T32 l1 x17_1).f1))) (fun _ h_=>h_.1))));(case side4=>exact (Kd.R_reads' HO_6.out).2.1);rintro e w35 ⟨rfl,hb⟩;refine ⟨_,rfl,?_⟩;have n0_:=Aside0.mk (Kd.R_below (by (with_reducible repeat (first | apply Kd.R_alloc | apply Kd.R_drewN | apply Kd.R_drew));exact (Kd.R_mono (Kd.R_far (p:=⟨gb232,1,none⟩) (Kd.R_far (p:=⟨gb232,0,none⟩) (Kd.R_types HO_6.out BK232.out (by decide)) (fun _ hk=>hk.2) (.int .i64 ((rd_T32 l1 x17_1).f0))) (fun _ hk=>hk.2) (.int .i64 ((rd_T32 l1 x17_1).f1))) (fun _ h_=>h_.1))) hb);have n1_:=Aside0.mk (blk_below (g:=gb232) (o:=.cells #[.int .i64 ((rd_T32 l1 x17_1).f0),.int .i64 ((rd_T32 l1 x17_1).f1)] 32 (0,0)) (by (with_reducible repeat (first | refine blk_drewN ?_ _ | refine blk_drew ?_ | refine blk_alloc ?_ _));refine blk_put (cs:=#[.int .i64 ((rd_T32 l1 x17_1).f0),.int .i64 0]) ?_ 1 _ rfl;(with_reducible repeat (first | refine blk_drewN ?_ _ | refine blk_drew ?_ | refine blk_alloc ?_ _));refine blk_put (cs:=#[.int .i64 0,.int .i64 0]) ?_ 0 _ rfl;(with_reducible repeat (first | refine blk_drewN ?_ _ | refine blk_drew ?_ | refine blk_alloc ?_ _));exact BK232.out) hb);have n2_:=Aside0.mk (below_step (by repeat (first | (with_reducible first | exact HB.out | apply below_alloc | apply pw_below_drewN | apply below_drew1 | refine below_set ?_ GE232.out) | exact HB.out)) hb);clear HO_6;clear BK232;clear HB;have HO_6:=n0_;have BK232:=n1_;have HB:=n2_;clear n0_ n1_ n2_;(try clear hb);(try clear hb2);(try clear hk);(try clear hi);have hcz36_0:w35.cell? ⟨gb232,0,none⟩ = some (.int .i64 ((rd_T32 l1 x17_1).f0)):=(blk_cell BK232.out 0).trans rfl;have hcz36_1:w35.cell? ⟨gb232,1,none⟩ = some (.int .i64 ((rd_T32 l1 x17_1).f1)):=(blk_cell BK232.out 1).trans rfl;have hfz36_0:=blk_frozen BK232.out 0;have hfz36_1:=blk_frozen BK232.out 1;have p234:0 ≤ (((rd_T32 l1 x17_1).f0):Int):=of_decide_eq_true (by first | (with_reducible assumption) | assumption);have q234:((rd_T32 l1 x17_1).f0) < (x6_1.length:Int):=of_decide_eq_true (by first | (with_reducible assumption) | assumption);obtain ⟨ad234,e234,hx234_0⟩:=Kd.at_int (Kd.R_reads' HO_6.out).2.2 ((rd_T32 l1 x17_1).f0) p234 q234;cases e234;replace p234:=eq_true p234;replace q234:=eq_true q234;have p17:0 ≤ (((rd_T32 l1 x17_1).f0):Int):=of_decide_eq_true (by first | (with_reducible assumption) | assumption);have q17:(((rd_T32 l1 x17_1).f0):Int) < ((x6_1.length:Int):Int):=of_decide_eq_true (by first | (with_reducible assumption) | assumption);obtain ⟨go17,co17,eo17,gb17,gl17,cl17,HG17⟩:=Kd.R_form HO_6.out (by omega);(first | cases eo17 | (injection eo17 with ea_ en_ ec_;(first | subst ea_ | (injection ea_ with ea_;subst ea_));subst ec_;clear en_));have GB17:=Aside0.mk gb17;have GG17:=Aside0.mk HG17;clear gb17 gl17 HG17;(first | simp only [add_plain] at hx234_0 | skip);obtain ⟨hx17_0,hf17_0⟩:=Kd.R_celln 0 HO_6.out (((rd_T32 l1 x17_1).f0):Int) p17 q17;replace p17:=eq_true p17;replace q17:=eq_true q17;obtain ⟨hy37_,hz37_⟩:=Kd.R_celln 0 HO_6.out (((rd_T32 l1 x17_1).f0):Int) (of_decide_eq_true (by first | (with_reducible assumption) | assumption)) (of_decide_eq_true (by first | (with_reducible assumption) | assumption));have HP37:=Kd.R_putg HO_6.out (((rd_T32 l1 x17_1).f0):Int) (wrap64 ((rd x6_1 ((rd_T32 l1 x17_1).f0)) + 1))) | ((with_reducible refine gate_store (t:=3) (p:=32) rfl ?_);refine store_event (t:=3) (p:=32) (v:=?vo_w38) (w1:=(w35.setCell ⟨go17,(((rd_T32 l1 x17_1).f0):Int).toNat,none⟩ (.int .i64 (wrap64 ((rd x6_1 ((rd_T32 l1 x17_1).f0)) + 1))))) ?hg ?ho ?hn ?hr ?_;(case ho=>rfl);(case hg=>rfl);(case hn=>rfl);(case hr=>first | (go_simp;done) | (go_simp;rfl));intro w38 hw;have hg:w35.grownBy w38 (some go17):=(by rw [hw];exact HP37.2);have hp_:Kd.R (Kd.int .i64) 3 w38 w.heap.size (fun _=>True) (.slice (some ⟨go17,0,none⟩) x6_1.length co34) y235:=(by rw [hw,Ny235.out];exact HP37.1);clear HP37;have n0_:=Aside0.mk (hp_);have n1_:=Aside0.mk (blk_grown (g:=gb232) (o:=.cells #[.int .i64 ((rd_T32 l1 x17_1).f0),.int .i64 ((rd_T32 l1 x17_1).f1)] 32 (0,0)) (by (with_reducible repeat (first | refine blk_drewN ?_ _ | refine blk_drew ?_ | refine blk_alloc ?_ _));exact BK232.out) hg (Kd.R_ne HO_6.out BK232.out (by decide)));have n2_:=Aside0.mk ((by rw [hw];exact below_set (HB.out) GB17.out:Below w.heap.size w w38));clear HO_6;clear BK232;clear HB;have HO_6:=n0_;have BK232:=n1_;have HB:=n2_;clear n0_ n1_ n2_;clear hg hw hp_;have hcz39_0:w38.cell? ⟨gb232,0,none⟩ = some (.int .i64 ((rd_T32 l1 x17_1).f0)):=(blk_cell BK232.out 0).trans rfl;have hcz39_1:w38.cell? ⟨gb232,1,none⟩ = some (.int .i64 ((rd_T32 l1 x17_1).f1)):=(blk_cell BK232.out 1).trans rfl;have hfz39_0:=blk_frozen BK232.out 0;have hfz39_1:=blk_frozen BK232.out 1))
             go_roundg k1
             case measure=>have:=HK1.out;omega
             case rel=>exact ⟨(y235),(wrap64 (x17_1 + 1)),(by first | rfl | (simp;done) | (simp [*];done)),H',⟨by have:=HK1.out;omega⟩,⟨by (with_reducible repeat (first | apply Kd.R_alloc | apply Kd.R_drewN | apply Kd.R_drew));exact HO_6.out⟩,⟨by repeat (first | (with_reducible first | exact HB.out | apply below_alloc | apply pw_below_drewN | apply below_drew1 | refine below_set ?_ GE232.out) | exact HB.out)⟩⟩
           ·rw [if_neg c16] at H
            exact absurd H (by simp)
          ·rw [if_neg c15] at H
           exact absurd H (by simp)
         ·replace c14:=Bool.eq_false_iff.mpr c14
          subst c14
          have H1:(some (([]:List Int),false)) = some (r1,r2):=by rw [if_neg (show ¬ (false = true) by decide)] at H;exact H
          clear H
          have H:=H1
          clear H1
          simp only [Option.some.injEq,Prod.mk.injEq] at H
          obtain ⟨rfl,rfl⟩:=H
          have p231:0 ≤ (x17_1:Int):=of_decide_eq_true (by first | (with_reducible assumption) | assumption)
          have q231:x17_1 < (l1.length:Int):=of_decide_eq_true (by first | (with_reducible assumption) | assumption)
          obtain ⟨ad231,e231,hx231_0,hx231_1⟩:=at_T32 HR1.out x17_1 p231 q231
          cases e231
          replace hx231_0:=(HB.out.cell (World.block_lt_of_cell? w _ hx231_0)).trans hx231_0
          replace hx231_1:=(HB.out.cell (World.block_lt_of_cell? w _ hx231_1)).trans hx231_1
          replace p231:=eq_true p231
          replace q231:=eq_true q231
          go_wp2_with (first | ((with_reducible refine gate_dst (N:=8) rfl ?_);refine box_event ?hg (N:=8) ?hd (cs:=#[.int .i64 0,.int .i64 0]) (t:=32) ?hr ?_;(case hd=>rfl);(case hg=>rfl);(case hr=>first | (go_simp;done) | (go_simp;rfl));intro gb232 hg w40 hbox hb;have n0_:=Aside0.mk (Kd.R_below (by (with_reducible repeat (first | apply Kd.R_alloc | apply Kd.R_drewN | apply Kd.R_drew));exact HO_6.out) hb);have n1_:=Aside0.mk (below_step (by repeat (first | (with_reducible first | exact HB.out | apply below_alloc | apply pw_below_drewN | apply below_drew1) | exact HB.out)) hb);have n2_:=Aside0.mk (hbox);have n3_:=Aside0.mk ((by rw [hg];exact (below_size (by repeat (first | (with_reducible first | exact HB.out | apply below_alloc | apply pw_below_drewN | apply below_drew1) | exact HB.out))):w.heap.size ≤ gb232));have n4_:=Aside0.mk ((by rw [hg];exact (below_size (by repeat (first | (with_reducible first | exact HB.out | apply below_alloc | apply pw_below_drewN | apply below_drew1) | exact HB.out))):w.heap.size ≤ gb232));clear HO_6;clear HB;have HO_6:=n0_;have HB:=n1_;have BK232:=n2_;have GW232:=n3_;have GE232:=n4_;clear n0_ n1_ n2_ n3_ n4_;clear hb hbox hg;have hcz41_0:w40.cell? ⟨gb232,0,none⟩ = some (.int .i64 0):=(blk_cell BK232.out 0).trans rfl;have hcz41_1:w40.cell? ⟨gb232,1,none⟩ = some (.int .i64 0):=(blk_cell BK232.out 1).trans rfl;have hfz41_0:=blk_frozen BK232.out 0;have hfz41_1:=blk_frozen BK232.out 1;obtain ⟨Ao42,co42,eo42⟩:=Kd.R_slice HO_6.out;subst eo42) | ((with_reducible refine gate_callee (f:=57) rfl ?_);refine goesL_ (some 24) rfl rfl Try.func57 (by kernel_rfl) rfl #[.slice A0 l0.length c0,.slice Ao42 x6_1.length co42,.agg #[.int .i64 ((rd_T32 l1 x17_1).f0),.int .i64 ((rd_T32 l1 x17_1).f1)]] rfl (by (try simp only [List.map_toArray,List.map_cons,List.map_nil]);first | done | rfl | (simp only [List.length_drop,List.length_take];rfl)) ?_;(with_reducible refine (impl_mayDo.calls _ _ l0 _ _ x6_1 ((rd_T32 l1 x17_1).f0) ((rd_T32 l1 x17_1).f1) false _ ?side1 ?side2 ?side3 ?side4 A13.out).mono ?_);(case side1=>exact Kd.C_below HR0.out (by repeat (first | (with_reducible first | exact HB.out | apply below_alloc | apply pw_below_drewN | apply below_drew1 | refine below_set ?_ GE232.out) | exact HB.out)));(case side2=>exact HC0.out);(case side3=>refine (Kd.R_reads' (e:=3) (base:=w.heap.size) (ok:=fun k_=>True) (n:=x6_1.length) (c:=co42) ?_).2.2;exact (by (with_reducible repeat (first | apply Kd.R_alloc | apply Kd.R_drewN | apply Kd.R_drew));exact (Kd.R_mono (Kd.R_far (p:=⟨gb232,1,none⟩) (Kd.R_far (p:=⟨gb232,0,none⟩) (Kd.R_types HO_6.out BK232.out (by decide)) (fun _ hk=>hk.2) (.int .i64 ((rd_T32 l1 x17_1).f0))) (fun _ hk=>hk.2) (.int .i64 ((rd_T32 l1 x17_1).f1))) (fun _ h_=>h_.1))));(case side4=>exact (Kd.R_reads' HO_6.out).2.1);rintro e w43 ⟨rfl,hb⟩;refine ⟨_,rfl,?_⟩;have n0_:=Aside0.mk (Kd.R_below (by (with_reducible repeat (first | apply Kd.R_alloc | apply Kd.R_drewN | apply Kd.R_drew));exact (Kd.R_mono (Kd.R_far (p:=⟨gb232,1,none⟩) (Kd.R_far (p:=⟨gb232,0,none⟩) (Kd.R_types HO_6.out BK232.out (by decide)) (fun _ hk=>hk.2) (.int .i64 ((rd_T32 l1 x17_1).f0))) (fun _ hk=>hk.2) (.int .i64 ((rd_T32 l1 x17_1).f1))) (fun _ h_=>h_.1))) hb);have n1_:=Aside0.mk (blk_below (g:=gb232) (o:=.cells #[.int .i64 ((rd_T32 l1 x17_1).f0),.int .i64 ((rd_T32 l1 x17_1).f1)] 32 (0,0)) (by (with_reducible repeat (first | refine blk_drewN ?_ _ | refine blk_drew ?_ | refine blk_alloc ?_ _));refine blk_put (cs:=#[.int .i64 ((rd_T32 l1 x17_1).f0),.int .i64 0]) ?_ 1 _ rfl;(with_reducible repeat (first | refine blk_drewN ?_ _ | refine blk_drew ?_ | refine blk_alloc ?_ _));refine blk_put (cs:=#[.int .i64 0,.int .i64 0]) ?_ 0 _ rfl;(with_reducible repeat (first | refine blk_drewN ?_ _ | refine blk_drew ?_ | refine blk_alloc ?_ _));exact BK232.out) hb);have n2_:=Aside0.mk (below_step (by repeat (first | (with_reducible first | exact HB.out | apply below_alloc | apply pw_below_drewN | apply below_drew1 | refine below_set ?_ GE232.out) | exact HB.out)) hb);clear HO_6;clear BK232;clear HB;have HO_6:=n0_;have BK232:=n1_;have HB:=n2_;clear n0_ n1_ n2_;(try clear hb);(try clear hb2);(try clear hk);(try clear hi)))
          go_ret2
          exact ⟨_,by first | rfl | (simp [errW_none,errW_some] <;> rfl) | (simp [*,errW_none,errW_some] <;> rfl),by first | exact Kd.R_nil _ _ _ _ _ | exact Kd.N_nil _ _ _ _ _ | exact Kd.V_nil _ _ _ _ _ | exact Kd.Q_nil _ _ _ _ _ | exact Kd.S_nil _ _ _ _ _,by repeat (first | (with_reducible first | exact HB.out | apply below_alloc | apply pw_below_drewN | apply below_drew1 | refine below_set ?_ GE232.out) | exact HB.out)⟩
        ·rw [if_neg c12] at H
         exact absurd H (by simp)
       ·rw [if_neg c11] at H
        exact absurd H (by simp)
      ·rw [if_neg c10] at H
       have c10b0:decide (x17_1 < (l1.length:Int)) = false:=decide_eq_false c10
       clear c10
       simp only [Option.some.injEq,Prod.mk.injEq] at H
       obtain ⟨rfl,rfl⟩:=H
       go_wp2
       go_ret2
       exact ⟨_,by first | rfl | (simp [errW_none,errW_some] <;> rfl) | (simp [*,errW_none,errW_some] <;> rfl),by (with_reducible repeat (first | apply Kd.R_alloc | apply Kd.R_drewN | apply Kd.R_drew));exact HO_6.out,by repeat (first | (with_reducible first | exact HB.out | apply below_alloc | apply pw_below_drewN | apply below_drew1) | exact HB.out)⟩
   ·rw [if_neg c6] at H
    exact absurd H (by simp)
  ·rw [if_neg c5] at H
   exact absurd H (by simp)
 ·replace c4:=Bool.eq_false_iff.mpr c4
  subst c4
  have H1:(some (([]:List Int),false)) = some (r1,r2):=by rw [if_neg (show ¬ (false = true) by decide)] at H;exact H
  clear H
  have H:=H1
  clear H1
  simp only [Option.some.injEq,Prod.mk.injEq] at H
  obtain ⟨rfl,rfl⟩:=H
  go_enter Try.func19,Try.ntmps19
  go_wp2_with (first | ((with_reducible refine gate_callee (f:=56) rfl ?_);refine goesL_ (some 10) rfl rfl Try.func56 (by kernel_rfl) rfl #[.slice A0 l0.length c0] rfl (by (try simp only [List.map_toArray,List.map_cons,List.map_nil]);first | done | rfl | (simp only [List.length_drop,List.length_take];rfl)) ?_;(with_reducible refine (impl_threadsOk.calls _ _ l0 false _ ?side1 ?side2 A3.out).mono ?_);(case side1=>repeat (first | exact HR0.out | (with_reducible refine Kd.C_alloc ?_ _) | (with_reducible refine Kd.C_drewN ?_ _) | (with_reducible refine Kd.C_drew ?_)));(case side2=>exact HC0.out);rintro e w44 ⟨rfl,hb⟩;refine ⟨_,rfl,?_⟩;have n0_:=Aside0.mk (below_step (by repeat (first | (with_reducible first | exact HB.out | apply below_alloc | apply pw_below_drewN | apply below_drew1) | exact HB.out)) hb);clear HB;have HB:=n0_;clear n0_;(try clear hb);(try clear hb2);(try clear hk);(try clear hi)))
  go_ret2
  exact ⟨_,by first | rfl | (simp [errW_none,errW_some] <;> rfl) | (simp [*,errW_none,errW_some] <;> rfl),by first | exact Kd.R_nil _ _ _ _ _ | exact Kd.N_nil _ _ _ _ _ | exact Kd.V_nil _ _ _ _ _ | exact Kd.Q_nil _ _ _ _ _ | exact Kd.S_nil _ _ _ _ _,by repeat (first | (with_reducible first | exact HB.out | apply below_alloc | apply pw_below_drewN | apply below_drew1) | exact HB.out)⟩
def impl_HistoryOk.f (k:Nat) (l0:List (List Int)) (l1:List (S32)):Option (Bool):=(impl_HistoryAt.f k l0 l1).bind fun bt286=>(some bt286.2)
theorem impl_HistoryOk.mono:∀ a0 a1 k,LeO (impl_HistoryOk.f k a0 a1) (impl_HistoryOk.f (k + 1) a0 a1):=by
 intro a0 a1 k
 unfold impl_HistoryOk.f
 repeat' first
   | (with_reducible exact impl_HistoryAt.mono _ _ _)
   | (with_reducible exact LeO.refl _)
   | (with_reducible exact LeO.none _)
   | (with_reducible refine LeO.ite ?_ ?_)
   | (with_reducible refine LeO.bind ?_ (fun _=>?_))
   | exact impl_HistoryAt.mono _ _ _
   | exact LeO.none _
   | refine LeO.ite ?_ ?_
   | refine LeO.bind ?_ (fun _=>?_)
set_option maxHeartbeats 8000000 in
set_option maxRecDepth 100000 in
theorem impl_HistoryOk.calls (k:Nat) (A0:Option Addr) (c0:Nat) (l0:List (List Int)) (A1:Option Addr) (c1:Nat) (l1:List (S32)) (r:Bool) (w:World) (hr0:Kd.C (Kd.slice 3 (Kd.int .i64)) w A0 l0.length l0) (hc0:l0.length ≤ c0) (hr1:Kd.C k32 w A1 l1.length l1) (hc1:l1.length ≤ c1) (h:impl_HistoryOk.f k l0 l1 = some r) :
  Calls Try.prog 27 #[.slice A0 l0.length c0,.slice A1 l1.length c1] w fun e w'=>e = .returned (.bool r)∧Below w.heap.size w w':=by
 have HR0:=Aside0.mk hr0
 have HC0:=Aside0.mk hc0
 clear hr0 hc0
 have HR1:=Aside0.mk hr1
 have HC1:=Aside0.mk hc1
 clear hr1 hc1
 have HB:=Aside0.mk (Below.refl w.heap.size w)
 have H:((impl_HistoryAt.f k l0 l1).bind fun bt286=>(some bt286.2)) = some r:=h
 clear h
 replace H:=Option.bind_eq_some_iff.mp H
 obtain ⟨⟨t286,t287⟩,A30,H⟩:=H
 replace H:(some t287) = some r:=H
 have A3:=Aside0.mk A30
 clear A30
 obtain rfl:=Option.some.inj H
 go_enter Try.func27,Try.ntmps27
 go_wp2_with (first | ((with_reducible refine gate_callee (f:=19) rfl ?_);refine goesL_ (some 10) rfl rfl Try.func19 (by kernel_rfl) rfl #[.slice A0 l0.length c0,.slice A1 l1.length c1] rfl (by (try simp only [List.map_toArray,List.map_cons,List.map_nil]);first | done | rfl | (simp only [List.length_drop,List.length_take];rfl)) ?_;(with_reducible refine (impl_HistoryAt.calls k _ _ l0 _ _ l1 t286 t287 _ ?side1 ?side2 ?side3 ?side4 A3.out).mono ?_);(case side1=>repeat (first | exact HR0.out | (with_reducible refine Kd.C_alloc ?_ _) | (with_reducible refine Kd.C_drewN ?_ _) | (with_reducible refine Kd.C_drew ?_)));(case side2=>exact HC0.out);(case side3=>repeat (first | exact HR1.out | (with_reducible refine Kd.C_alloc ?_ _) | (with_reducible refine Kd.C_drewN ?_ _) | (with_reducible refine Kd.C_drew ?_)));(case side4=>exact HC1.out);rintro e w4 ⟨v288,rfl,ho0,hb⟩;refine ⟨_,rfl,?_⟩;have n0_:=Aside0.mk (Kd.R_lower ho0 (below_size (by repeat (first | (with_reducible first | exact HB.out | apply below_alloc | apply pw_below_drewN | apply below_drew1) | exact HB.out))));have n1_:=Aside0.mk (below_step (by repeat (first | (with_reducible first | exact HB.out | apply below_alloc | apply pw_below_drewN | apply below_drew1) | exact HB.out)) hb);clear HB;have HO289:=n0_;have HB:=n1_;clear n0_ n1_;(try clear hb);(try clear hb2);(try clear hk);(try clear hi);(try clear ho0)))
 go_ret
 exact ⟨by first | rfl | (simp [errW_none,errW_some] <;> rfl) | (simp [*,errW_none,errW_some] <;> rfl),by repeat (first | (with_reducible first | exact HB.out | apply below_alloc | apply pw_below_drewN | apply below_drew1) | exact HB.out)⟩
mutual
def impl_HistoryBack.j0:Nat → List (List Int) → List (S32) → Int → Int → List Int → Bool → Option ((List (S32)) × Bool)
 | 0,_,_,_,_,_,_=>none
 | k + 1,x0,x1,x2,x3,x10,x35=>if x35 = true then (some (([]:List (S32)),false)) else ((impl_Event_70.f x1).bind fun t647=>(impl_HistoryBack.l0 k x0 x2 x3 x10 t647))
def impl_HistoryBack.l0:Nat → List (List Int) → Int → Int → List Int → List (S32) → Option ((List (S32)) × Bool)
 | 0,_,_,_,_,_=>none
 | k + 1,x0,x2,x3,x10,x12=>if 0 ≤ x2 then (if x2 < (x10.length:Int) then (if (rd x10 x2) > x3 then (impl_HistoryBack.l1 k x0 x2 x3 x12 (wrap64 ((x12.length:Int) - 1))) else (some (x12,true))) else (none)) else (none)
def impl_HistoryBack.l1:Nat → List (List Int) → Int → Int → List (S32) → Int → Option ((List (S32)) × Bool)
 | 0,_,_,_,_,_=>none
 | k + 1,x0,x2,x3,x12,x13=>if 0 ≤ x13 then (if x13 < (x12.length:Int) then ((impl_has.f ((rd_T32 x12 x13).f0) ((rd_T32 x12 x13).f1) x2).bind fun t652=>(if t652 = true then ((impl_drop.f k x12 x13).bind fun t653=>((impl_HistoryAt.f k x0 t653).bind fun bt656=>(impl_HistoryBack.l0 k x0 x2 x3 bt656.1 t653))) else (impl_HistoryBack.l1 k x0 x2 x3 x12 (wrap64 (x13 - 1))))) else (none)) else (none)
end
def impl_HistoryBack.f (k:Nat) (l0:List (List Int)) (l1:List (S32)) (a2:Int) (a3:Int):Option ((List (S32)) × Bool):=(impl_HistoryAt.f k l0 l1).bind fun bt643=>(if bt643.2 = true then (if a2 < 0 then (impl_HistoryBack.j0 k l0 l1 a2 a3 bt643.1 true) else (if a2 ≥ (l0.length:Int) then (impl_HistoryBack.j0 k l0 l1 a2 a3 bt643.1 true) else (impl_HistoryBack.j0 k l0 l1 a2 a3 bt643.1 (decide (a3 < 0))))) else (impl_HistoryBack.j0 k l0 l1 a2 a3 bt643.1 true))
theorem impl_HistoryBack.mono_l:∀ k,(∀ y0 y1 y2 y3 y4 y5,LeO (impl_HistoryBack.j0 k y0 y1 y2 y3 y4 y5) (impl_HistoryBack.j0 (k + 1) y0 y1 y2 y3 y4 y5))∧(∀ y0 y1 y2 y3 y4,LeO (impl_HistoryBack.l0 k y0 y1 y2 y3 y4) (impl_HistoryBack.l0 (k + 1) y0 y1 y2 y3 y4))∧(∀ y0 y1 y2 y3 y4,LeO (impl_HistoryBack.l1 k y0 y1 y2 y3 y4) (impl_HistoryBack.l1 (k + 1) y0 y1 y2 y3 y4))
 | 0=>⟨fun _ _ _ _ _ _ r h=>by simp [impl_HistoryBack.j0] at h,fun _ _ _ _ _ r h=>by simp [impl_HistoryBack.l0] at h,fun _ _ _ _ _ r h=>by simp [impl_HistoryBack.l1] at h⟩
 | k + 1=>by
  obtain ⟨ih0,ih1,ih2⟩:=impl_HistoryBack.mono_l k
  refine ⟨?_,?_,?_⟩
  ·intro y0 y1 y2 y3 y4 y5
   unfold impl_HistoryBack.j0
   repeat' first
   | (with_reducible exact ih0 _ _ _ _ _ _)
   | (with_reducible exact ih1 _ _ _ _ _)
   | (with_reducible exact ih2 _ _ _ _ _)
   | (with_reducible exact impl_HistoryAt.mono _ _ _)
   | (with_reducible exact impl_drop.mono _ _ _)
   | (with_reducible exact LeO.refl _)
   | (with_reducible exact LeO.none _)
   | (with_reducible refine LeO.ite ?_ ?_)
   | (with_reducible refine LeO.bind ?_ (fun _=>?_))
   | exact ih0 _ _ _ _ _ _
   | exact ih1 _ _ _ _ _
   | exact ih2 _ _ _ _ _
   | exact impl_HistoryAt.mono _ _ _
   | exact impl_drop.mono _ _ _
   | exact LeO.none _
   | refine LeO.ite ?_ ?_
   | refine LeO.bind ?_ (fun _=>?_)
  ·intro y0 y1 y2 y3 y4
   unfold impl_HistoryBack.l0
   repeat' first
   | (with_reducible exact ih0 _ _ _ _ _ _)
   | (with_reducible exact ih1 _ _ _ _ _)
   | (with_reducible exact ih2 _ _ _ _ _)
   | (with_reducible exact impl_HistoryAt.mono _ _ _)
   | (with_reducible exact impl_drop.mono _ _ _)
   | (with_reducible exact LeO.refl _)
   | (with_reducible exact LeO.none _)
   | (with_reducible refine LeO.ite ?_ ?_)
   | (with_reducible refine LeO.bind ?_ (fun _=>?_))
   | exact ih0 _ _ _ _ _ _
   | exact ih1 _ _ _ _ _
   | exact ih2 _ _ _ _ _
   | exact impl_HistoryAt.mono _ _ _
   | exact impl_drop.mono _ _ _
   | exact LeO.none _
   | refine LeO.ite ?_ ?_
   | refine LeO.bind ?_ (fun _=>?_)
  ·intro y0 y1 y2 y3 y4
   unfold impl_HistoryBack.l1
   repeat' first
   | (with_reducible exact ih0 _ _ _ _ _ _)
   | (with_reducible exact ih1 _ _ _ _ _)
   | (with_reducible exact ih2 _ _ _ _ _)
   | (with_reducible exact impl_HistoryAt.mono _ _ _)
   | (with_reducible exact impl_drop.mono _ _ _)
   | (with_reducible exact LeO.refl _)
   | (with_reducible exact LeO.none _)
   | (with_reducible refine LeO.ite ?_ ?_)
   | (with_reducible refine LeO.bind ?_ (fun _=>?_))
   | exact ih0 _ _ _ _ _ _
   | exact ih1 _ _ _ _ _
   | exact ih2 _ _ _ _ _
   | exact impl_HistoryAt.mono _ _ _
   | exact impl_drop.mono _ _ _
   | exact LeO.none _
   | refine LeO.ite ?_ ?_
   | refine LeO.bind ?_ (fun _=>?_)
theorem impl_HistoryBack.mono:∀ a0 a1 a2 a3 k,LeO (impl_HistoryBack.f k a0 a1 a2 a3) (impl_HistoryBack.f (k + 1) a0 a1 a2 a3):=by
 intro a0 a1 a2 a3 k
 obtain ⟨ih0,ih1,ih2⟩:=impl_HistoryBack.mono_l k
 unfold impl_HistoryBack.f
 repeat' first
   | (with_reducible exact ih0 _ _ _ _ _ _)
   | (with_reducible exact ih1 _ _ _ _ _)
   | (with_reducible exact ih2 _ _ _ _ _)
   | (with_reducible exact impl_HistoryAt.mono _ _ _)
   | (with_reducible exact impl_drop.mono _ _ _)
   | (with_reducible exact LeO.refl _)
   | (with_reducible exact LeO.none _)
   | (with_reducible refine LeO.ite ?_ ?_)
   | (with_reducible refine LeO.bind ?_ (fun _=>?_))
   | exact ih0 _ _ _ _ _ _
   | exact ih1 _ _ _ _ _
   | exact ih2 _ _ _ _ _
   | exact impl_HistoryAt.mono _ _ _
   | exact impl_drop.mono _ _ _
   | exact LeO.none _
   | refine LeO.ite ?_ ?_
   | refine LeO.bind ?_ (fun _=>?_)
set_option maxHeartbeats 8000000 in
set_option maxRecDepth 100000 in
theorem impl_HistoryBack.calls (k:Nat) (A0:Option Addr) (c0:Nat) (l0:List (List Int)) (A1:Option Addr) (c1:Nat) (l1:List (S32)) (a2:Int) (a3:Int) (r1:List (S32)) (r2:Bool) (w:World) (hr0:Kd.C (Kd.slice 3 (Kd.int .i64)) w A0 l0.length l0) (hc0:l0.length ≤ c0) (hr1:Kd.C k32 w A1 l1.length l1) (hc1:l1.length ≤ c1) (h:impl_HistoryBack.f k l0 l1 a2 a3 = some (r1,r2)) :
  Calls Try.prog 47 #[.slice A0 l0.length c0,.slice A1 l1.length c1,.int .i64 a2,.int .i64 a3] w fun e w'=>∃ v0_:Value,e = .returned (.tuple #[v0_,.bool r2])∧Kd.R k32 32 w' w.heap.size (fun _=>True) v0_ r1∧Below w.heap.size w w':=by
 have hu32:=Try.underlying32
 have HR0:=Aside0.mk hr0
 have HC0:=Aside0.mk hc0
 clear hr0 hc0
 have HR1:=Aside0.mk hr1
 have HC1:=Aside0.mk hc1
 clear hr1 hc1
 have HB:=Aside0.mk (Below.refl w.heap.size w)
 have H:((impl_HistoryAt.f k l0 l1).bind fun bt643=>(if bt643.2 = true then (if a2 < 0 then (impl_HistoryBack.j0 k l0 l1 a2 a3 bt643.1 true) else (if a2 ≥ (l0.length:Int) then (impl_HistoryBack.j0 k l0 l1 a2 a3 bt643.1 true) else (impl_HistoryBack.j0 k l0 l1 a2 a3 bt643.1 (decide (a3 < 0))))) else (impl_HistoryBack.j0 k l0 l1 a2 a3 bt643.1 true))) = some (r1,r2):=h
 clear h
 replace H:=Option.bind_eq_some_iff.mp H
 obtain ⟨⟨t643,t644⟩,A50,H⟩:=H
 replace H:(if t644 = true then (if a2 < 0 then (impl_HistoryBack.j0 k l0 l1 a2 a3 t643 true) else (if a2 ≥ (l0.length:Int) then (impl_HistoryBack.j0 k l0 l1 a2 a3 t643 true) else (impl_HistoryBack.j0 k l0 l1 a2 a3 t643 (decide (a3 < 0))))) else (impl_HistoryBack.j0 k l0 l1 a2 a3 t643 true)) = some (r1,r2):=H
 have A5:=Aside0.mk A50
 clear A50
 have HC6:=Aside0.mk H
 clear H
 go_enter Try.func47,Try.ntmps47
 go_upto_region 2 with (first | ((with_reducible refine gate_callee (f:=19) rfl ?_);refine goesL_ (some 17) rfl rfl Try.func19 (by kernel_rfl) rfl #[.slice A0 l0.length c0,.slice A1 l1.length c1] rfl (by (try simp only [List.map_toArray,List.map_cons,List.map_nil]);first | done | rfl | (simp only [List.length_drop,List.length_take];rfl)) ?_;(with_reducible refine (impl_HistoryAt.calls k _ _ l0 _ _ l1 t643 t644 _ ?side1 ?side2 ?side3 ?side4 A5.out).mono ?_);(case side1=>repeat (first | exact HR0.out | (with_reducible refine Kd.C_alloc ?_ _) | (with_reducible refine Kd.C_drewN ?_ _) | (with_reducible refine Kd.C_drew ?_)));(case side2=>exact HC0.out);(case side3=>repeat (first | exact HR1.out | (with_reducible refine Kd.C_alloc ?_ _) | (with_reducible refine Kd.C_drewN ?_ _) | (with_reducible refine Kd.C_drew ?_)));(case side4=>exact HC1.out);rintro e w7 ⟨v645,rfl,ho0,hb⟩;refine ⟨_,rfl,?_⟩;have n0_:=Aside0.mk (Kd.R_lower ho0 (below_size (by repeat (first | (with_reducible first | exact HB.out | apply below_alloc | apply pw_below_drewN | apply below_drew1) | exact HB.out))));have n1_:=Aside0.mk (below_step (by repeat (first | (with_reducible first | exact HB.out | apply below_alloc | apply pw_below_drewN | apply below_drew1) | exact HB.out)) hb);clear HB;have HO646:=n0_;have HB:=n1_;clear n0_ n1_;(try clear hb);(try clear hb2);(try clear hk);(try clear hi);(try clear ho0)))
 (try simp only [Act.put,List.setIfInBounds_toArray,List.set_cons_zero,List.set_cons_succ])
 go_cut [35] (fun v35 wc=>∃ (kq:Nat) (x35_5:Bool),v35 = .bool x35_5∧Aside0 (impl_HistoryBack.j0 kq l0 l1 a2 a3 t643 x35_5 = some (r1,r2))∧Aside0 (kq ≤ k)∧Aside0 (Kd.R (Kd.int .i64) 3 wc w.heap.size (fun _=>True) v645 t643)∧Aside0 (Below w.heap.size w wc))
 case first =>
  have H:=HC6.out
  clear HC6
  by_cases c8:t644 = true
  ·subst c8
   have H1:(if a2 < 0 then (impl_HistoryBack.j0 k l0 l1 a2 a3 t643 true) else (if a2 ≥ (l0.length:Int) then (impl_HistoryBack.j0 k l0 l1 a2 a3 t643 true) else (impl_HistoryBack.j0 k l0 l1 a2 a3 t643 (decide (a3 < 0))))) = some (r1,r2):=by rw [if_pos rfl] at H;exact H
   clear H
   have H:=H1
   clear H1
   by_cases c9:a2 < 0
   ·rw [if_pos c9] at H
    have c9b0:decide (a2 < 0) = true:=decide_eq_true c9
    clear c9
    (first | rw [c9b0] | (simp only [i64_w,i32_w];rw [c9b0]) | skip)
    have H':=Aside0.mk H
    clear H
    go_wp2
    go_meet
    case rel=>exact ⟨_,(true),(by first | rfl | (simp;done) | (simp [*];done)),H',⟨by first | omega | exact Nat.le_refl _⟩,⟨by (with_reducible repeat (first | apply Kd.R_alloc | apply Kd.R_drewN | apply Kd.R_drew));exact HO646.out⟩,⟨by repeat (first | (with_reducible first | exact HB.out | apply below_alloc | apply pw_below_drewN | apply below_drew1) | exact HB.out)⟩⟩
   ·rw [if_neg c9] at H
    have c9b0:decide (a2 < 0) = false:=decide_eq_false c9
    clear c9
    (first | rw [c9b0] | (simp only [i64_w,i32_w];rw [c9b0]) | skip)
    by_cases c10:a2 ≥ (l0.length:Int)
    ·rw [if_pos c10] at H
     have c10b0:decide ((l0.length:Int) ≤ a2) = true:=decide_eq_true c10
     clear c10
     have H':=Aside0.mk H
     clear H
     go_wp2
     go_meet
     case rel=>exact ⟨_,(true),(by first | rfl | (simp;done) | (simp [*];done)),H',⟨by first | omega | exact Nat.le_refl _⟩,⟨by (with_reducible repeat (first | apply Kd.R_alloc | apply Kd.R_drewN | apply Kd.R_drew));exact HO646.out⟩,⟨by repeat (first | (with_reducible first | exact HB.out | apply below_alloc | apply pw_below_drewN | apply below_drew1) | exact HB.out)⟩⟩
    ·rw [if_neg c10] at H
     have c10b0:decide ((l0.length:Int) ≤ a2) = false:=decide_eq_false c10
     clear c10
     have H':=Aside0.mk H
     clear H
     go_wp2
     go_meet
     case rel=>exact ⟨_,(decide (a3 < 0)),(by first | rfl | (simp;done) | (simp [*];done)),H',⟨by first | omega | exact Nat.le_refl _⟩,⟨by (with_reducible repeat (first | apply Kd.R_alloc | apply Kd.R_drewN | apply Kd.R_drew));exact HO646.out⟩,⟨by repeat (first | (with_reducible first | exact HB.out | apply below_alloc | apply pw_below_drewN | apply below_drew1) | exact HB.out)⟩⟩
  ·replace c8:=Bool.eq_false_iff.mpr c8
   subst c8
   have H1:(impl_HistoryBack.j0 k l0 l1 a2 a3 t643 true) = some (r1,r2):=by rw [if_neg (show ¬ (false = true) by decide)] at H;exact H
   clear H
   have H:=H1
   clear H1
   have H':=Aside0.mk H
   clear H
   go_wp2
   go_meet
   case rel=>exact ⟨_,(true),(by first | rfl | (simp;done) | (simp [*];done)),H',⟨by first | omega | exact Nat.le_refl _⟩,⟨by (with_reducible repeat (first | apply Kd.R_alloc | apply Kd.R_drewN | apply Kd.R_drew));exact HO646.out⟩,⟨by repeat (first | (with_reducible first | exact HB.out | apply below_alloc | apply pw_below_drewN | apply below_drew1) | exact HB.out)⟩⟩
 case rest =>
  clear HC6
  try clear c1
  try clear p2
  try clear c4
  try clear c8
  try clear c9
  try clear c9b0
  try clear c10
  try clear c10b0
  obtain ⟨kq,x35_5,rfl,HA,HJ5,HO_10,HB⟩:=hcut
  cases kq with
  | zero=>exact absurd HA.out (by simp [impl_HistoryBack.j0])
  | succ kj5 =>
   have H:=HA.out
   clear HA
   simp only [impl_HistoryBack.j0] at H
   by_cases c11:x35_5 = true
   ·subst c11
    have H1:(some (([]:List (S32)),false)) = some (r1,r2):=by rw [if_pos rfl] at H;exact H
    clear H
    have H:=H1
    clear H1
    simp only [Option.some.injEq,Prod.mk.injEq] at H
    obtain ⟨rfl,rfl⟩:=H
    go_wp2
    go_ret2
    exact ⟨_,by first | rfl | (simp [errW_none,errW_some] <;> rfl) | (simp [*,errW_none,errW_some] <;> rfl),by first | exact Kd.R_nil _ _ _ _ _ | exact Kd.N_nil _ _ _ _ _ | exact Kd.V_nil _ _ _ _ _ | exact Kd.Q_nil _ _ _ _ _ | exact Kd.S_nil _ _ _ _ _,by repeat (first | (with_reducible first | exact HB.out | apply below_alloc | apply pw_below_drewN | apply below_drew1) | exact HB.out)⟩
   ·replace c11:=Bool.eq_false_iff.mpr c11
    subst c11
    have H1:((impl_Event_70.f l1).bind fun t647=>(impl_HistoryBack.l0 kj5 l0 a2 a3 t643 t647)) = some (r1,r2):=by rw [if_neg (show ¬ (false = true) by decide)] at H;exact H
    clear H
    have H:=H1
    clear H1
    replace H:=Option.bind_eq_some_iff.mp H
    obtain ⟨t647,A120,H⟩:=H
    replace H:(impl_HistoryBack.l0 kj5 l0 a2 a3 t643 t647) = some (r1,r2):=H
    have A12:=Aside0.mk A120
    clear A120
    have H':=Aside0.mk H
    clear H
    go_wp2_with (first | ((with_reducible refine gate_callee (f:=70) rfl ?_);refine goesL_ (some 37) rfl rfl Try.func70 (by kernel_rfl) rfl #[.slice A1 l1.length c1] rfl (by (try simp only [List.map_toArray,List.map_cons,List.map_nil]);first | done | rfl | (simp only [List.length_drop,List.length_take];rfl)) ?_;(with_reducible refine (impl_Event_70.calls _ _ l1 t647 _ ?side1 ?side2 A12.out).mono ?_);(case side1=>repeat (first | exact (Kd.C_below HR1.out HB.out) | (with_reducible refine Kd.C_alloc ?_ _) | (with_reducible refine Kd.C_drewN ?_ _) | (with_reducible refine Kd.C_drew ?_)));(case side2=>exact HC1.out);rintro e w13 ⟨v648,rfl,ho0,hb⟩;refine ⟨_,rfl,?_⟩;have n0_:=Aside0.mk (Kd.R_below (by (with_reducible repeat (first | apply Kd.R_alloc | apply Kd.R_drewN | apply Kd.R_drew));exact HO_10.out) hb);have n1_:=Aside0.mk (Kd.R_lower ho0 (below_size (by repeat (first | (with_reducible first | exact HB.out | apply below_alloc | apply pw_below_drewN | apply below_drew1) | exact HB.out))));have n2_:=Aside0.mk (below_step (by repeat (first | (with_reducible first | exact HB.out | apply below_alloc | apply pw_below_drewN | apply below_drew1) | exact HB.out)) hb);clear HO_10;clear HB;have HO_10:=n0_;have HO649:=n1_;have HB:=n2_;clear n0_ n1_ n2_;(try clear hb);(try clear hb2);(try clear hk);(try clear hi);(try clear ho0)))
    go_loopg [10,12] kj5 (fun kq v10 v12 w'=>∃ (x10_2:List Int) (x12_2:List (S32)),Aside0 (impl_HistoryBack.l0 kq l0 a2 a3 x10_2 x12_2 = some (r1,r2))∧Aside0 (kq ≤ kj5)∧Aside0 (Kd.R (Kd.int .i64) 3 w' w.heap.size (fun _=>True) v10 x10_2)∧Aside0 (Kd.R k32 32 w' w.heap.size (fun _=>True) v12 x12_2)∧Aside0 (Below w.heap.size w w'))
    case atStart=>exact ⟨(t643),(t647),H',⟨Nat.le_refl _⟩,⟨by (with_reducible repeat (first | apply Kd.R_alloc | apply Kd.R_drewN | apply Kd.R_drew));exact HO_10.out⟩,⟨by (with_reducible repeat (first | apply Kd.R_alloc | apply Kd.R_drewN | apply Kd.R_drew));exact HO649.out⟩,⟨by repeat (first | (with_reducible first | exact HB.out | apply below_alloc | apply pw_below_drewN | apply below_drew1) | exact HB.out)⟩⟩
    case round =>
     clear H'
     try clear c1
     try clear p2
     try clear c4
     try clear c7
     try clear c8
     try clear c9
     try clear c9b0
     try clear c10
     try clear c10b0
     try clear c11
     try clear p2
     obtain ⟨x10_2,x12_2,HA,HK2,HO_10,HO_12,HB⟩:=hrel
     cases gk with
     | zero=>exact absurd HA.out (by simp [impl_HistoryBack.l0])
     | succ k2 =>
      have H:=HA.out
      clear HA
      simp only [impl_HistoryBack.l0] at H
      by_cases c14:0 ≤ a2
      ·rw [if_pos c14] at H
       have c14b0:decide (0 ≤ a2) = true:=decide_eq_true c14
       clear c14
       by_cases c15:a2 < (x10_2.length:Int)
       ·rw [if_pos c15] at H
        have c15b0:decide (a2 < (x10_2.length:Int)) = true:=decide_eq_true c15
        clear c15
        by_cases c16:(rd x10_2 a2) > a3
        ·rw [if_pos c16] at H
         have c16b0:decide (a3 < (rd x10_2 a2)) = true:=decide_eq_true c16
         clear c16
         have H':=Aside0.mk H
         clear H
         obtain ⟨Ao17,co17,eo17⟩:=Kd.R_slice HO_10.out
         subst eo17
         have p650:0 ≤ (a2:Int):=of_decide_eq_true (by first | (with_reducible assumption) | assumption)
         have q650:a2 < (x10_2.length:Int):=of_decide_eq_true (by first | (with_reducible assumption) | assumption)
         obtain ⟨ad650,e650,hx650_0⟩:=Kd.at_int (Kd.R_reads' HO_10.out).2.2 a2 p650 q650
         cases e650
         replace p650:=eq_true p650
         replace q650:=eq_true q650
         obtain ⟨Ao18,co18,eo18⟩:=Kd.R_slice HO_12.out
         subst eo18
         go_wp2
         go_loopg [13] k2 (fun kq v13 w'=>∃ (x13_3:Int),v13 = .int .i64 x13_3∧Aside0 (impl_HistoryBack.l1 kq l0 a2 a3 x12_2 x13_3 = some (r1,r2))∧Aside0 (kq ≤ k2)∧Aside0 (Kd.R k32 32 w' w.heap.size (fun _=>True) (.slice Ao18 x12_2.length co18) x12_2)∧Aside0 (Below w.heap.size w w'))
         case atStart=>exact ⟨(wrap64 ((x12_2.length:Int) - 1)),(by first | rfl | (simp;done) | (simp [*];done)),H',⟨Nat.le_refl _⟩,⟨by (with_reducible repeat (first | apply Kd.R_alloc | apply Kd.R_drewN | apply Kd.R_drew));exact HO_12.out⟩,⟨by repeat (first | (with_reducible first | exact HB.out | apply below_alloc | apply pw_below_drewN | apply below_drew1) | exact HB.out)⟩⟩
         case round =>
          clear H'
          try clear c1
          try clear p2
          try clear c4
          try clear p6
          try clear q6
          try clear hx6
          try clear c7
          try clear c8
          try clear c9
          try clear c9b0
          try clear c10
          try clear c10b0
          try clear c11
          try clear c14
          try clear c14b0
          try clear c15
          try clear c15b0
          try clear c16
          try clear c16b0
          try clear hx650_0
          try clear p2
          try clear p650
          try clear q650
          obtain ⟨x13_3,rfl,HA,HK3,HO_12,HB⟩:=hrel
          cases gk with
          | zero=>exact absurd HA.out (by simp [impl_HistoryBack.l1])
          | succ k3 =>
           have H:=HA.out
           clear HA
           simp only [impl_HistoryBack.l1] at H
           by_cases c19:0 ≤ x13_3
           ·rw [if_pos c19] at H
            have c19b0:decide (0 ≤ x13_3) = true:=decide_eq_true c19
            clear c19
            by_cases c20:x13_3 < (x12_2.length:Int)
            ·rw [if_pos c20] at H
             have c20b0:decide (x13_3 < (x12_2.length:Int)) = true:=decide_eq_true c20
             clear c20
             replace H:=Option.bind_eq_some_iff.mp H
             obtain ⟨t652,A210,H⟩:=H
             replace H:(if t652 = true then ((impl_drop.f k3 x12_2 x13_3).bind fun t653=>((impl_HistoryAt.f k3 l0 t653).bind fun bt656=>(impl_HistoryBack.l0 k3 l0 a2 a3 bt656.1 t653))) else (impl_HistoryBack.l1 k3 l0 a2 a3 x12_2 (wrap64 (x13_3 - 1)))) = some (r1,r2):=H
             have A21:=Aside0.mk A210
             clear A210
             by_cases c22:t652 = true
             ·subst c22
              have H1:((impl_drop.f k3 x12_2 x13_3).bind fun t653=>((impl_HistoryAt.f k3 l0 t653).bind fun bt656=>(impl_HistoryBack.l0 k3 l0 a2 a3 bt656.1 t653))) = some (r1,r2):=by rw [if_pos rfl] at H;exact H
              clear H
              have H:=H1
              clear H1
              replace H:=Option.bind_eq_some_iff.mp H
              obtain ⟨t653,A230,H⟩:=H
              replace H:((impl_HistoryAt.f k3 l0 t653).bind fun bt656=>(impl_HistoryBack.l0 k3 l0 a2 a3 bt656.1 t653)) = some (r1,r2):=H
              have A23:=Aside0.mk A230
              clear A230
              replace H:=Option.bind_eq_some_iff.mp H
              obtain ⟨⟨t656,t657⟩,A240,H⟩:=H
              replace H:(impl_HistoryBack.l0 k3 l0 a2 a3 t656 t653) = some (r1,r2):=H
              have A24:=Aside0.mk A240
              clear A240
              have H':=Aside0.mk H
              clear H
              have p651:0 ≤ (x13_3:Int):=of_decide_eq_true (by first | (with_reducible assumption) | assumption)
              have q651:x13_3 < (x12_2.length:Int):=of_decide_eq_true (by first | (with_reducible assumption) | assumption)
              obtain ⟨ad651,e651,hx651_0,hx651_1⟩:=at_T32 (Kd.R_reads' HO_12.out).2.2 x13_3 p651 q651
              cases e651
              replace p651:=eq_true p651
              replace q651:=eq_true q651
              go_wp2_with (first | ((with_reducible refine gate_callee (f:=78) rfl ?_);refine goesL_ (some 52) rfl rfl Try.func78 (by kernel_rfl) rfl #[.agg #[.int .i64 ((rd_T32 x12_2 x13_3).f0),.int .i64 ((rd_T32 x12_2 x13_3).f1)],.int .i64 a2] rfl (by (try simp only [List.map_toArray,List.map_cons,List.map_nil]);first | done | rfl | (simp only [List.length_drop,List.length_take];rfl)) ?_;(with_reducible refine (impl_has.calls ((rd_T32 x12_2 x13_3).f0) ((rd_T32 x12_2 x13_3).f1) a2 true _ A21.out).mono ?_);rintro e w25 ⟨rfl,hb⟩;refine ⟨_,rfl,?_⟩;have n0_:=Aside0.mk (Kd.R_below (by (with_reducible repeat (first | apply Kd.R_alloc | apply Kd.R_drewN | apply Kd.R_drew));exact HO_12.out) hb);have n1_:=Aside0.mk (below_step (by repeat (first | (with_reducible first | exact HB.out | apply below_alloc | apply pw_below_drewN | apply below_drew1) | exact HB.out)) hb);clear HO_12;clear HB;have HO_12:=n0_;have HB:=n1_;clear n0_ n1_;(try clear hb);(try clear hb2);(try clear hk);(try clear hi)) | ((with_reducible refine gate_callee (f:=80) rfl ?_);refine goesL_ (some 58) rfl rfl Try.func80 (by kernel_rfl) rfl #[.slice (some ad651) x12_2.length co18,.int .i64 x13_3] rfl (by (try simp only [List.map_toArray,List.map_cons,List.map_nil]);first | done | rfl | (simp only [List.length_drop,List.length_take];rfl)) ?_;(with_reducible refine (impl_drop.calls k3 (fun k_=>some k_ = (.slice (some ad651) x12_2.length co18:Value).ownBlock) (.slice (some ad651) x12_2.length co18) x12_2 x13_3 t653 w _ ?side1 ?side2 A23.out).mono ?_);(case side1=>repeat (first | (with_reducible first | exact HB.out | apply below_alloc | apply pw_below_drewN | apply below_drew1) | exact HB.out));(case side2=>exact Kd.R_tight rfl HO_12.out);rintro e w26 ⟨v654,rfl,ho0,hb,hkp⟩;refine ⟨_,rfl,?_⟩;have n0_:=Aside0.mk (Kd.R_mono (ok':=fun k_=>True) ho0 (fun k_ hk_=>trivial));have n1_:=Aside0.mk (hb);clear HB;clear HO_12;have HO655:=n0_;have HB:=n1_;clear n0_ n1_;(try clear hb);(try clear hkp);(try clear ho0);obtain ⟨Ao27,co27,eo27⟩:=Kd.R_slice HO655.out;subst eo27) | ((with_reducible refine gate_callee (f:=19) rfl ?_);refine goesL_ (some 62) rfl rfl Try.func19 (by kernel_rfl) rfl #[.slice A0 l0.length c0,.slice Ao27 t653.length co27] rfl (by (try simp only [List.map_toArray,List.map_cons,List.map_nil]);first | done | rfl | (simp only [List.length_drop,List.length_take];rfl)) ?_;(with_reducible refine (impl_HistoryAt.calls k3 _ _ l0 _ _ t653 t656 t657 _ ?side1 ?side2 ?side3 ?side4 A24.out).mono ?_);(case side1=>repeat (first | exact (Kd.C_below HR0.out HB.out) | (with_reducible refine Kd.C_alloc ?_ _) | (with_reducible refine Kd.C_drewN ?_ _) | (with_reducible refine Kd.C_drew ?_)));(case side2=>exact HC0.out);(case side3=>repeat (first | exact (Kd.R_reads' HO655.out).2.2 | (with_reducible refine Kd.C_alloc ?_ _) | (with_reducible refine Kd.C_drewN ?_ _) | (with_reducible refine Kd.C_drew ?_)));(case side4=>exact (Kd.R_reads' HO655.out).2.1);rintro e w28 ⟨v658,rfl,ho0,hb⟩;refine ⟨_,rfl,?_⟩;have n0_:=Aside0.mk (Kd.R_below (by (with_reducible repeat (first | apply Kd.R_alloc | apply Kd.R_drewN | apply Kd.R_drew));exact HO655.out) hb);have n1_:=Aside0.mk (Kd.R_lower ho0 (below_size (by repeat (first | (with_reducible first | exact HB.out | apply below_alloc | apply pw_below_drewN | apply below_drew1) | exact HB.out))));have n2_:=Aside0.mk (below_step (by repeat (first | (with_reducible first | exact HB.out | apply below_alloc | apply pw_below_drewN | apply below_drew1) | exact HB.out)) hb);clear HO655;clear HB;have HO655:=n0_;have HO659:=n1_;have HB:=n2_;clear n0_ n1_ n2_;(try clear hb);(try clear hb2);(try clear hk);(try clear hi);(try clear ho0)))
              go_roundg k3
              case measure=>have:=HJ5.out;have:=HK2.out;have:=HK3.out;omega
              case rel=>exact ⟨(t656),(t653),H',⟨by have:=HJ5.out;have:=HK2.out;have:=HK3.out;omega⟩,⟨by (with_reducible repeat (first | apply Kd.R_alloc | apply Kd.R_drewN | apply Kd.R_drew));exact HO659.out⟩,⟨by (with_reducible repeat (first | apply Kd.R_alloc | apply Kd.R_drewN | apply Kd.R_drew));exact HO655.out⟩,⟨by repeat (first | (with_reducible first | exact HB.out | apply below_alloc | apply pw_below_drewN | apply below_drew1) | exact HB.out)⟩⟩
             ·replace c22:=Bool.eq_false_iff.mpr c22
              subst c22
              have H1:(impl_HistoryBack.l1 k3 l0 a2 a3 x12_2 (wrap64 (x13_3 - 1))) = some (r1,r2):=by rw [if_neg (show ¬ (false = true) by decide)] at H;exact H
              clear H
              have H:=H1
              clear H1
              have H':=Aside0.mk H
              clear H
              have p651:0 ≤ (x13_3:Int):=of_decide_eq_true (by first | (with_reducible assumption) | assumption)
              have q651:x13_3 < (x12_2.length:Int):=of_decide_eq_true (by first | (with_reducible assumption) | assumption)
              obtain ⟨ad651,e651,hx651_0,hx651_1⟩:=at_T32 (Kd.R_reads' HO_12.out).2.2 x13_3 p651 q651
              cases e651
              replace p651:=eq_true p651
              replace q651:=eq_true q651
              go_wp2_with (first | ((with_reducible refine gate_callee (f:=78) rfl ?_);refine goesL_ (some 52) rfl rfl Try.func78 (by kernel_rfl) rfl #[.agg #[.int .i64 ((rd_T32 x12_2 x13_3).f0),.int .i64 ((rd_T32 x12_2 x13_3).f1)],.int .i64 a2] rfl (by (try simp only [List.map_toArray,List.map_cons,List.map_nil]);first | done | rfl | (simp only [List.length_drop,List.length_take];rfl)) ?_;(with_reducible refine (impl_has.calls ((rd_T32 x12_2 x13_3).f0) ((rd_T32 x12_2 x13_3).f1) a2 false _ A21.out).mono ?_);rintro e w29 ⟨rfl,hb⟩;refine ⟨_,rfl,?_⟩;have n0_:=Aside0.mk (Kd.R_below (by (with_reducible repeat (first | apply Kd.R_alloc | apply Kd.R_drewN | apply Kd.R_drew));exact HO_12.out) hb);have n1_:=Aside0.mk (below_step (by repeat (first | (with_reducible first | exact HB.out | apply below_alloc | apply pw_below_drewN | apply below_drew1) | exact HB.out)) hb);clear HO_12;clear HB;have HO_12:=n0_;have HB:=n1_;clear n0_ n1_;(try clear hb);(try clear hb2);(try clear hk);(try clear hi)))
              go_roundg k3
              case measure=>have:=HJ5.out;have:=HK2.out;have:=HK3.out;omega
              case rel=>exact ⟨(wrap64 (x13_3 - 1)),(by first | rfl | (simp;done) | (simp [*];done)),H',⟨by have:=HJ5.out;have:=HK2.out;have:=HK3.out;omega⟩,⟨by (with_reducible repeat (first | apply Kd.R_alloc | apply Kd.R_drewN | apply Kd.R_drew));exact HO_12.out⟩,⟨by repeat (first | (with_reducible first | exact HB.out | apply below_alloc | apply pw_below_drewN | apply below_drew1) | exact HB.out)⟩⟩
            ·rw [if_neg c20] at H
             exact absurd H (by simp)
           ·rw [if_neg c19] at H
            exact absurd H (by simp)
        ·rw [if_neg c16] at H
         have c16b0:decide (a3 < (rd x10_2 a2)) = false:=decide_eq_false c16
         clear c16
         simp only [Option.some.injEq,Prod.mk.injEq] at H
         obtain ⟨rfl,rfl⟩:=H
         obtain ⟨Ao30,co30,eo30⟩:=Kd.R_slice HO_10.out
         subst eo30
         have p650:0 ≤ (a2:Int):=of_decide_eq_true (by first | (with_reducible assumption) | assumption)
         have q650:a2 < (x10_2.length:Int):=of_decide_eq_true (by first | (with_reducible assumption) | assumption)
         obtain ⟨ad650,e650,hx650_0⟩:=Kd.at_int (Kd.R_reads' HO_10.out).2.2 a2 p650 q650
         cases e650
         replace p650:=eq_true p650
         replace q650:=eq_true q650
         go_wp2
         go_ret2
         exact ⟨_,by first | rfl | (simp [errW_none,errW_some] <;> rfl) | (simp [*,errW_none,errW_some] <;> rfl),by (with_reducible repeat (first | apply Kd.R_alloc | apply Kd.R_drewN | apply Kd.R_drew));exact HO_12.out,by repeat (first | (with_reducible first | exact HB.out | apply below_alloc | apply pw_below_drewN | apply below_drew1) | exact HB.out)⟩
       ·rw [if_neg c15] at H
        exact absurd H (by simp)
      ·rw [if_neg c14] at H
       exact absurd H (by simp)
end Go.Proofs.Ythljlnkanllpnaa.P
