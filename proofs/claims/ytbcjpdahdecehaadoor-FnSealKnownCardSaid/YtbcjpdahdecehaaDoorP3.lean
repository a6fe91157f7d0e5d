/- What the Go functions that the laws reach compute, and that their calls come to just that: told by a program of this session (aprint.py). No condition. -/
import Derived.Test.YtbcjpdahdecehaaDoorP0
import Derived.Test.YtbcjpdahdecehaaDoorP1
import Derived.Test.YtbcjpdahdecehaaDoorP2
import Derived.Test.YtbcjpdahdecehaaDoorHItoa
namespace Go.Proofs.YtbcjpdahdecehaaDoor.P
open Go.RowKit Go.Proofs.YtbcjpdahdecehaaDoorW.PrintWords Go.Proofs.YtbcjpdahdecehaaDoorW.PrintLast Go.Proofs.YtbcjpdahdecehaaDoorW.PrintMore
attribute [local go_sem] max2_int min2_int max_two min_two max_three min_three max_four min_four
set_option linter.unusedVariables false
set_option linter.unusedSimpArgs false
mutual
def spec_SealKnown.l0:Nat → List (S25) → List ByteArray → Int → Option (List ByteArray × Bool)
 | 0,_,_,_=>none
 | k + 1,x4,x5,x6=>if x6 < (x4.length:Int) then (if 0 ≤ x6 then ((spec_l20Text.f k ((rd_T25 x4 x6).f0) ((rd_T25 x4 x6).f1) ((rd_T25 x4 x6).f2)).bind fun t750=>(spec_SealKnown.l1 k x4 x5 x6 t750 (x5.length:Int))) else (none)) else (some (x5,true))
def spec_SealKnown.l1:Nat → List (S25) → List ByteArray → Int → ByteArray → Int → Option (List ByteArray × Bool)
 | 0,_,_,_,_,_=>none
 | k + 1,x4,x5,x6,x7,x8=>if x8 > 0 then (if 0 ≤ (wrap64 (x8 - 1)) then (if (wrap64 (x8 - 1)) < (x5.length:Int) then (if (Op.bytesLess x7.toList ((rdOf ByteArray.empty x5 (wrap64 (x8 - 1))).toList)) = true then (spec_SealKnown.l1 k x4 x5 x6 x7 (wrap64 (x8 - 1))) else ((some (([]:List ByteArray):List ByteArray)).bind fun y752=>(if 0 ≤ x8 then (if x8 ≤ (x5.length:Int) then ((some (x5.take (x8:Int).toNat:List ByteArray)).bind fun y755=>(if y752.length + y755.length < 8796093022208 then ((some (y752 ++ y755:List ByteArray)).bind fun y760=>((some (([x7]:List ByteArray):List ByteArray)).bind fun y763=>(if y760.length + y763.length < 8796093022208 then ((some (y760 ++ y763:List ByteArray)).bind fun y766=>((some (x5.drop (x8:Int).toNat:List ByteArray)).bind fun y769=>(if y766.length + y769.length < 8796093022208 then (spec_SealKnown.l0 k x4 (y766 ++ y769) (wrap64 (x6 + 1))) else (none)))) else (none)))) else (none))) else (none)) else (none)))) else (none)) else (none)) else ((some (([]:List ByteArray):List ByteArray)).bind fun y777=>(if 0 ≤ x8 then (if x8 ≤ (x5.length:Int) then ((some (x5.take (x8:Int).toNat:List ByteArray)).bind fun y780=>(if y777.length + y780.length < 8796093022208 then ((some (y777 ++ y780:List ByteArray)).bind fun y785=>((some (([x7]:List ByteArray):List ByteArray)).bind fun y788=>(if y785.length + y788.length < 8796093022208 then ((some (y785 ++ y788:List ByteArray)).bind fun y791=>((some (x5.drop (x8:Int).toNat:List ByteArray)).bind fun y794=>(if y791.length + y794.length < 8796093022208 then (spec_SealKnown.l0 k x4 (y791 ++ y794) (wrap64 (x6 + 1))) else (none)))) else (none)))) else (none))) else (none)) else (none)))
end
def spec_SealKnown.f (k:Nat) (l0:List (S25)):Option (List ByteArray × Bool):=(spec_l20Known.f k l0).bind fun t742=>(if t742 = true then ((spec_l20Apart.f k l0).bind fun t743=>(spec_SealKnown.l0 k t743 (([]:List ByteArray)) 0)) else (some (([]:List ByteArray),false)))
theorem spec_SealKnown.mono_l:∀ k,(∀ y0 y1 y2,LeO (spec_SealKnown.l0 k y0 y1 y2) (spec_SealKnown.l0 (k + 1) y0 y1 y2))∧(∀ y0 y1 y2 y3 y4,LeO (spec_SealKnown.l1 k y0 y1 y2 y3 y4) (spec_SealKnown.l1 (k + 1) y0 y1 y2 y3 y4))
 | 0=>⟨fun _ _ _ r h=>by simp [spec_SealKnown.l0] at h,fun _ _ _ _ _ r h=>by simp [spec_SealKnown.l1] at h⟩
 | k + 1=>by
  obtain ⟨ih0,ih1⟩:=spec_SealKnown.mono_l k
  refine ⟨?_,?_⟩
  ·intro y0 y1 y2
   unfold spec_SealKnown.l0
   repeat' first
   | (with_reducible exact ih0 _ _ _)
   | (with_reducible exact ih1 _ _ _ _ _)
   | (with_reducible exact spec_l20Apart.mono _ _)
   | (with_reducible exact spec_l20Known.mono _ _)
   | (with_reducible exact spec_l20Text.mono _ _ _ _)
   | (with_reducible exact LeO.refl _)
   | (with_reducible exact LeO.none _)
   | (with_reducible refine LeO.ite ?_ ?_)
   | (with_reducible refine LeO.bind ?_ (fun _=>?_))
   | exact ih0 _ _ _
   | exact ih1 _ _ _ _ _
   | exact spec_l20Apart.mono _ _
   | exact spec_l20Known.mono _ _
   | exact spec_l20Text.mono _ _ _ _
   | exact LeO.none _
   | refine LeO.ite ?_ ?_
   | refine LeO.bind ?_ (fun _=>?_)
  ·intro y0 y1 y2 y3 y4
   unfold spec_SealKnown.l1
   repeat' first
   | (with_reducible exact ih0 _ _ _)
   | (with_reducible exact ih1 _ _ _ _ _)
   | (with_reducible exact spec_l20Apart.mono _ _)
   | (with_reducible exact spec_l20Known.mono _ _)
   | (with_reducible exact spec_l20Text.mono _ _ _ _)
   | (with_reducible exact LeO.refl _)
   | (with_reducible exact LeO.none _)
   | (with_reducible refine LeO.ite ?_ ?_)
   | (with_reducible refine LeO.bind ?_ (fun _=>?_))
   | exact ih0 _ _ _
   | exact ih1 _ _ _ _ _
   | exact spec_l20Apart.mono _ _
   | exact spec_l20Known.mono _ _
   | exact spec_l20Text.mono _ _ _ _
   | exact LeO.none _
   | refine LeO.ite ?_ ?_
   | refine LeO.bind ?_ (fun _=>?_)
theorem spec_SealKnown.mono:∀ a0 k,LeO (spec_SealKnown.f k a0) (spec_SealKnown.f (k + 1) a0):=by
 intro a0 k
 obtain ⟨ih0,ih1⟩:=spec_SealKnown.mono_l k
 unfold spec_SealKnown.f
 repeat' first
   | (with_reducible exact ih0 _ _ _)
   | (with_reducible exact ih1 _ _ _ _ _)
   | (with_reducible exact spec_l20Apart.mono _ _)
   | (with_reducible exact spec_l20Known.mono _ _)
   | (with_reducible exact spec_l20Text.mono _ _ _ _)
   | (with_reducible exact LeO.refl _)
   | (with_reducible exact LeO.none _)
   | (with_reducible refine LeO.ite ?_ ?_)
   | (with_reducible refine LeO.bind ?_ (fun _=>?_))
   | exact ih0 _ _ _
   | exact ih1 _ _ _ _ _
   | exact spec_l20Apart.mono _ _
   | exact spec_l20Known.mono _ _
   | exact spec_l20Text.mono _ _ _ _
   | exact LeO.none _
   | refine LeO.ite ?_ ?_
   | refine LeO.bind ?_ (fun _=>?_)
def spec_SealKnown.T12:Bool × List (List Nat × List Nat):=(true,[([],[]),([],[]),([],[]),([1,2],[1,2]),([0,3],[0,3]),([],[]),([5],[5]),([4,6,4],[4,6]),([],[]),([],[]),([8,9],[8,9]),([7,10,7],[7,10]),([11,11,0,1,2,3,4,5,6,7,8,9,10,11],[1,8,11])])
def spec_SealKnown.B12:List Nat:=[0,0,0,6,15,0,32,127,0,0,768,2047,4095]
theorem spec_SealKnown.tab12:rtab .any (opsOf Tryd.f33 12) = spec_SealKnown.T12:=by kernel_rfl
theorem spec_SealKnown.bits12:waitsOk spec_SealKnown.T12.2 spec_SealKnown.B12 = true:=by kernel_rfl
set_option maxHeartbeats 8000000 in
set_option maxRecDepth 100000 in
theorem spec_SealKnown.calls (k:Nat) (A0:Option Addr) (c0:Nat) (l0:List (S25)) (r1:List ByteArray) (r2:Bool) (w:World) (hr0:Kd.C k25 w A0 l0.length l0) (hc0:l0.length ≤ c0) (h:spec_SealKnown.f k l0 = some (r1,r2)) :
  Calls Tryd.prog 33 #[.slice A0 l0.length c0] w fun e w'=>∃ v0_:Value,e = .returned (.tuple #[v0_,.bool r2])∧Kd.R Kd.string 9 w' w.heap.size (fun _=>True) v0_ r1∧Below w.heap.size w w':=by
 have hu25:=Tryd.underlying25
 have HR0:=Aside0.mk hr0
 have HC0:=Aside0.mk hc0
 clear hr0 hc0
 have HB:=Aside0.mk (Below.refl w.heap.size w)
 have H:((spec_l20Known.f k l0).bind fun t742=>(if t742 = true then ((spec_l20Apart.f k l0).bind fun t743=>(spec_SealKnown.l0 k t743 (([]:List ByteArray)) 0)) else (some (([]:List ByteArray),false)))) = some (r1,r2):=h
 clear h
 replace H:=Option.bind_eq_some_iff.mp H
 obtain ⟨t742,A20,H⟩:=H
 replace H:(if t742 = true then ((spec_l20Apart.f k l0).bind fun t743=>(spec_SealKnown.l0 k t743 (([]:List ByteArray)) 0)) else (some (([]:List ByteArray),false))) = some (r1,r2):=H
 have A2:=Aside0.mk A20
 clear A20
 by_cases c3:t742 = true
 ·subst c3
  have H1:((spec_l20Apart.f k l0).bind fun t743=>(spec_SealKnown.l0 k t743 (([]:List ByteArray)) 0)) = some (r1,r2):=by rw [if_pos rfl] at H;exact H
  clear H
  have H:=H1
  clear H1
  replace H:=Option.bind_eq_some_iff.mp H
  obtain ⟨t743,A40,H⟩:=H
  replace H:(spec_SealKnown.l0 k t743 (([]:List ByteArray)) 0) = some (r1,r2):=H
  have A4:=Aside0.mk A40
  clear A40
  obtain ⟨y746,hy746⟩:∃ y_:List ByteArray,y_ = (([]:List ByteArray)):=⟨_,rfl⟩
  replace H:(spec_SealKnown.l0 k t743 y746 0) = some (r1,r2):=by first | (rw [hy746];with_reducible exact H) | (have H2_:=(Option.bind_some _ _).symm.trans H;rw [hy746];with_reducible exact H2_) | (have H2_:=(Option.bind_some _ _).symm.trans H;with_reducible exact H2_) | with_reducible exact H | (rw [hy746];exact H) | exact H
  have Ny746:=Aside0.mk hy746
  clear hy746
  have H':=Aside0.mk H
  clear H
  go_enter Tryd.func33,Tryd.ntmps33
  go_wp2_with (first | ((with_reducible refine gate_callee (f:=51) rfl ?_);refine goesL_ (some 10) rfl rfl Tryd.func51 (by kernel_rfl) rfl #[.slice A0 l0.length c0] rfl (by (try simp only [List.map_toArray,List.map_cons,List.map_nil]);first | done | rfl | (simp only [List.length_drop,List.length_take];rfl)) ?_;(with_reducible refine (spec_l20Known.calls k _ _ l0 true _ ?side1 ?side2 A2.out).mono ?_);(case side1=>repeat (first | exact HR0.out | (with_reducible refine Kd.C_alloc ?_ _) | (with_reducible refine Kd.C_drewN ?_ _) | (with_reducible refine Kd.C_drew ?_)));(case side2=>exact HC0.out);rintro e w5 ⟨rfl,hb⟩;refine ⟨_,rfl,?_⟩;have n0_:=Aside0.mk (below_step (by repeat (first | (with_reducible first | exact HB.out | apply below_alloc | apply pw_below_drewN | apply below_drew1) | exact HB.out)) hb);clear HB;have HB:=n0_;clear n0_;(try clear hb);(try clear hb2);(try clear hk);(try clear hi)) | ((with_reducible refine gate_callee (f:=53) rfl ?_);refine goesL_ (some 13) rfl rfl Tryd.func53 (by kernel_rfl) rfl #[.slice A0 l0.length c0] rfl (by (try simp only [List.map_toArray,List.map_cons,List.map_nil]);first | done | rfl | (simp only [List.length_drop,List.length_take];rfl)) ?_;(with_reducible refine (spec_l20Apart.calls k (fun k_=>k_ < w.heap.size) _ _ l0 t743 _ ?side1 A4.out).mono ?_);(case side1=>exact Kd.V_mk HC0.out (Kd.F_below (Kd.C_F k25_heap HR0.out) (by repeat (first | (with_reducible first | exact HB.out | apply below_alloc | apply pw_below_drewN | apply below_drew1) | exact HB.out))));rintro e w6 ⟨v744,rfl,ho0,hb⟩;refine ⟨_,rfl,?_⟩;have n0_:=Aside0.mk (Kd.N_lower (Kd.N_mono (ok':=fun k_=>True) ho0 (fun k_ hk_=>trivial)) (below_size (by repeat (first | (with_reducible first | exact HB.out | apply below_alloc | apply pw_below_drewN | apply below_drew1) | exact HB.out))));have n1_:=Aside0.mk (below_step (by repeat (first | (with_reducible first | exact HB.out | apply below_alloc | apply pw_below_drewN | apply below_drew1) | exact HB.out)) hb);clear HB;have HO745:=n0_;have HB:=n1_;clear n0_ n1_;(try clear hb);(try clear hb2);(try clear hk);(try clear hi);(try clear ho0)) | ((with_reducible refine gate_dst (N:=14) rfl ?_);refine Kd.R_lit Kd.string _ 9 ?hg (N:=14) ?hd (xs:=([]:List ByteArray)) (inner:=[]) (ok:=fun _=>True) (okp:=fun _=>True) ?hr ?hp (fun _ hk=>hk) trivial (Below.refl _ _) (Nat.le_refl _) (by simp) ?_;(case hd=>rfl);(case hg=>rfl);(case hr=>first | (go_simp;done) | (go_simp;rfl));(case hp=>exact (Reps.none _ _));intro v747 w7 ho8 hb hg_ hnew_;clear hg_ hnew_;(first | rw [← Ny746.out] at ho8 | (simp only [Int.reduceToNat] at ho8;rw [← Ny746.out] at ho8));have n0_:=Aside0.mk (Kd.N_elder' (by (with_reducible repeat (first | apply Kd.N_alloc | apply Kd.N_drewN | apply Kd.N_drew));exact HO745.out) (Kd.R_base ho8) hb);have n1_:=Aside0.mk (Kd.R_lower ho8 (below_size (by repeat (first | (with_reducible first | exact HB.out | apply below_alloc | apply pw_below_drewN | apply below_drew1) | exact HB.out))));have n2_:=Aside0.mk (below_step (by repeat (first | (with_reducible first | exact HB.out | apply below_alloc | apply pw_below_drewN | apply below_drew1) | exact HB.out)) hb);clear HO745;clear HB;have HO745:=n0_;have HO748:=n1_;have HB:=n2_;clear n0_ n1_ n2_;clear hb ho8))
  go_loopg [5,6] k (fun kq v5 v6 w'=>∃ (x5_1:List ByteArray) (x6_1:Int),v6 = .int .i64 x6_1∧Aside0 (spec_SealKnown.l0 kq t743 x5_1 x6_1 = some (r1,r2))∧Aside0 (kq ≤ k)∧Aside0 (Kd.N k25 25 w' w.heap.size (fun k_=>some k_ ≠ (v5:Value).ownBlock) v744 t743)∧Aside0 (Kd.R Kd.string 9 w' w.heap.size (fun _=>True) v5 x5_1)∧Aside0 (Below w.heap.size w w'))
  case atStart=>exact ⟨(y746),(0),(by first | rfl | (simp;done) | (simp [*];done)),H',⟨Nat.le_refl _⟩,⟨by (with_reducible repeat (first | apply Kd.N_alloc | apply Kd.N_drewN | apply Kd.N_drew));exact Kd.N_mono HO745.out (fun _ hk=>hk.2)⟩,⟨by (with_reducible repeat (first | apply Kd.R_alloc | apply Kd.R_drewN | apply Kd.R_drew));exact HO748.out⟩,⟨by repeat (first | (with_reducible first | exact HB.out | apply below_alloc | apply pw_below_drewN | apply below_drew1) | exact HB.out)⟩⟩
  case round =>
   clear H'
   try clear p2
   try clear c3
   try clear c5
   obtain ⟨x5_1,x6_1,rfl,HA,HK1,HO_4,HO_5,HB⟩:=hrel
   cases gk with
   | zero=>exact absurd HA.out (by simp [spec_SealKnown.l0])
   | succ k1 =>
    have H:=HA.out
    clear HA
    simp only [spec_SealKnown.l0] at H
    by_cases c9:x6_1 < (t743.length:Int)
    ·rw [if_pos c9] at H
     have c9b0:decide (x6_1 < (t743.length:Int)) = true:=decide_eq_true c9
     clear c9
     by_cases c10:0 ≤ x6_1
     ·rw [if_pos c10] at H
      have c10b0:decide (0 ≤ x6_1) = true:=decide_eq_true c10
      clear c10
      replace H:=Option.bind_eq_some_iff.mp H
      obtain ⟨t750,A110,H⟩:=H
      replace H:(spec_SealKnown.l1 k1 t743 x5_1 x6_1 t750 (x5_1.length:Int)) = some (r1,r2):=H
      have A11:=Aside0.mk A110
      clear A110
      have H':=Aside0.mk H
      clear H
      obtain ⟨Ao12,co12,eo12⟩:=Kd.N_slice HO_4.out
      subst eo12
      have p749:0 ≤ (x6_1:Int):=of_decide_eq_true (by first | (with_reducible assumption) | assumption)
      have q749:x6_1 < (t743.length:Int):=of_decide_eq_true (by first | (with_reducible assumption) | assumption)
      obtain ⟨ad749,A749_2,c749_2,e749,hx749_0,hx749_1,hx749_2,hl749_2,hi749_2⟩:=at_T25 (Kd.N_reads' HO_4.out).2.2 x6_1 p749 q749
      cases e749
      obtain ⟨ce749,hce749,hMe749,hcc749⟩:=Kd.N_get HO_4.out z25 x6_1 p749 (by first | exact q749 | exact of_decide_eq_true (by first | (with_reducible assumption) | assumption) | (have e_:=(Kd.N_reads' HO_4.out).1;omega))
      obtain ⟨ua749_2,uc749_2,rfl,ul749_2,ge749_2⟩:=k25_openF hMe749
      have hv749_2:=hcc749 2 _ rfl
      rw [add_field _ _ 2 (by omega)] at hv749_2
      replace hv749_2:=Option.some.inj (hv749_2.symm.trans hx749_2)
      injection hv749_2 with hva_ hvn_ hvc_
      rw [hva_] at ge749_2
      rw [hvc_] at ul749_2
      have HL749_2:=Aside0.mk (show Kd.V k25 25 _ w.heap.size _ _ ((rd_T25 t743 x6_1).f2) from Kd.V_mk ul749_2 ge749_2)
      clear hva_ hvn_ hvc_ ge749_2 ul749_2
      clear hcc749 hce749
      have HR749_2:=Aside0.mk hi749_2
      have HC749_2:=Aside0.mk hl749_2
      clear hi749_2 hl749_2
      replace p749:=eq_true p749
      replace q749:=eq_true q749
      go_wp2_with (first | ((with_reducible refine gate_callee (f:=48) rfl ?_);refine goesL_ (some 25) rfl rfl Tryd.func48 (by kernel_rfl) rfl #[.agg #[.int .i64 ((rd_T25 t743 x6_1).f0),.int .i64 ((rd_T25 t743 x6_1).f1),.slice A749_2 ((rd_T25 t743 x6_1).f2).length c749_2]] rfl (by (try simp only [List.map_toArray,List.map_cons,List.map_nil]);first | done | rfl | (simp only [List.length_drop,List.length_take];rfl)) ?_;(with_reducible refine (spec_l20Text.calls k1 ((rd_T25 t743 x6_1).f0) ((rd_T25 t743 x6_1).f1) _ _ ((rd_T25 t743 x6_1).f2) t750 _ ?side1 ?side2 A11.out).mono ?_);(case side1=>repeat (first | exact (by repeat (first | (with_reducible exact HR749_2.out) | (with_reducible refine Kd.C_alloc ?_ _) | (with_reducible refine Kd.C_drewN ?_ _) | (with_reducible refine Kd.C_drew ?_) | exact HR749_2.out)) | (with_reducible refine Kd.C_alloc ?_ _) | (with_reducible refine Kd.C_drewN ?_ _) | (with_reducible refine Kd.C_drew ?_)));(case side2=>exact HC749_2.out);rintro e w13 ⟨rfl,hb⟩;refine ⟨_,rfl,?_⟩;have n0_:=Aside0.mk (Kd.N_below (by (with_reducible repeat (first | apply Kd.N_alloc | apply Kd.N_drewN | apply Kd.N_drew));exact HO_4.out) hb);have n1_:=Aside0.mk (Kd.R_below (by (with_reducible repeat (first | apply Kd.R_alloc | apply Kd.R_drewN | apply Kd.R_drew));exact HO_5.out) hb);have n2_:=Aside0.mk (Kd.V_below (by (with_reducible repeat (first | apply Kd.V_alloc | apply Kd.V_drewN | apply Kd.V_drew));exact HL749_2.out) hb);have n3_:=Aside0.mk (Kd.C_below (by repeat (first | (with_reducible exact HR749_2.out) | (with_reducible refine Kd.C_alloc ?_ _) | (with_reducible refine Kd.C_drewN ?_ _) | (with_reducible refine Kd.C_drew ?_) | exact HR749_2.out)) hb);have n4_:=Aside0.mk (below_step (by repeat (first | (with_reducible first | exact HB.out | apply below_alloc | apply pw_below_drewN | apply below_drew1) | exact HB.out)) hb);clear HO_4;clear HO_5;clear HL749_2;clear HR749_2;clear HB;have HO_4:=n0_;have HO_5:=n1_;have HL749_2:=n2_;have HR749_2:=n3_;have HB:=n4_;clear n0_ n1_ n2_ n3_ n4_;(try clear hb);(try clear hb2);(try clear hk);(try clear hi);obtain ⟨Ao14,co14,eo14⟩:=Kd.R_slice HO_5.out;subst eo14))
      go_loopg [8] k1 (fun kq v8 w'=>∃ (x8_2:Int),v8 = .int .i64 x8_2∧Aside0 (spec_SealKnown.l1 kq t743 x5_1 x6_1 t750 x8_2 = some (r1,r2))∧Aside0 (kq ≤ k1)∧Aside0 (Kd.N k25 25 w' w.heap.size (fun k_=>some k_ ≠ ((.slice Ao14 x5_1.length co14):Value).ownBlock) (.slice (some ad749) t743.length co12) t743)∧Aside0 (Kd.R Kd.string 9 w' w.heap.size (fun _=>True) (.slice Ao14 x5_1.length co14) x5_1)∧Aside0 (Kd.C k25 w' A749_2 ((rd_T25 t743 x6_1).f2).length ((rd_T25 t743 x6_1).f2))∧Aside0 (Below w.heap.size w w'))
      case atStart=>exact ⟨((x5_1.length:Int)),(by first | rfl | (simp;done) | (simp [*];done)),H',⟨Nat.le_refl _⟩,⟨by (with_reducible repeat (first | apply Kd.N_alloc | apply Kd.N_drewN | apply Kd.N_drew));exact HO_4.out⟩,⟨by (with_reducible repeat (first | apply Kd.R_alloc | apply Kd.R_drewN | apply Kd.R_drew));exact HO_5.out⟩,⟨by repeat (first | (with_reducible exact HR749_2.out) | (with_reducible refine Kd.C_alloc ?_ _) | (with_reducible refine Kd.C_drewN ?_ _) | (with_reducible refine Kd.C_drew ?_) | exact HR749_2.out)⟩,⟨by repeat (first | (with_reducible first | exact HB.out | apply below_alloc | apply pw_below_drewN | apply below_drew1) | exact HB.out)⟩⟩
      case round =>
       clear H'
       try clear c1
       try clear p2
       try clear c3
       try clear c4
       try clear c5
       try clear c7
       try clear p7
       try clear q7
       try clear hx7
       try clear c9
       try clear c9b0
       try clear c10
       try clear c10b0
       try clear hx749_0
       try clear hx749_1
       try clear hx749_2
       try clear p2
       try clear p749
       try clear q749
       obtain ⟨x8_2,rfl,HA,HK2,HO_4,HO_5,HR749_2,HB⟩:=hrel
       cases gk with
       | zero=>exact absurd HA.out (by simp [spec_SealKnown.l1])
       | succ k2 =>
        have H:=HA.out
        clear HA
        simp only [spec_SealKnown.l1] at H
        by_cases c15:x8_2 > 0
        ·rw [if_pos c15] at H
         have c15b0:decide (0 < x8_2) = true:=decide_eq_true c15
         clear c15
         obtain ⟨ji16,hji16⟩:∃ j_:Int,(wrap64 (x8_2 - 1)) = j_:=⟨_,rfl⟩
         replace H:(if 0 ≤ (ji16) then (if (ji16) < (x5_1.length:Int) then (if (Op.bytesLess t750.toList ((rdOf ByteArray.empty x5_1 (ji16)).toList)) = true then (spec_SealKnown.l1 k2 t743 x5_1 x6_1 t750 ji16) else ((some (([]:List ByteArray):List ByteArray)).bind fun y752=>(if 0 ≤ x8_2 then (if x8_2 ≤ (x5_1.length:Int) then ((some (x5_1.take (x8_2:Int).toNat:List ByteArray)).bind fun y755=>(if y752.length + y755.length < 8796093022208 then ((some (y752 ++ y755:List ByteArray)).bind fun y760=>((some (([t750]:List ByteArray):List ByteArray)).bind fun y763=>(if y760.length + y763.length < 8796093022208 then ((some (y760 ++ y763:List ByteArray)).bind fun y766=>((some (x5_1.drop (x8_2:Int).toNat:List ByteArray)).bind fun y769=>(if y766.length + y769.length < 8796093022208 then (spec_SealKnown.l0 k2 t743 (y766 ++ y769) (wrap64 (x6_1 + 1))) else (none)))) else (none)))) else (none))) else (none)) else (none)))) else (none)) else (none)) = some (r1,r2):=by first | (rw [hji16] at H;exact H) | (simp only [hji16] at H ⊢;exact H)
         have hji16w:(IntKind.i64.wrap (x8_2 - 1)) = ji16:=(i64_w _).trans hji16
         by_cases c17:0 ≤ (ji16)
         ·rw [if_pos c17] at H
          have c17b0:decide (0 ≤ (ji16)) = true:=decide_eq_true c17
          clear c17
          by_cases c18:(ji16) < (x5_1.length:Int)
          ·rw [if_pos c18] at H
           have c18b0:decide ((ji16) < (x5_1.length:Int)) = true:=decide_eq_true c18
           clear c18
           by_cases c19:(Op.bytesLess t750.toList ((rdOf ByteArray.empty x5_1 (ji16)).toList)) = true
           ·rw [if_pos c19] at H
            have c19b0:(Op.bytesLess t750.toList ((rdOf ByteArray.empty x5_1 (ji16)).toList)) = true:=c19
            clear c19
            have H':=Aside0.mk H
            clear H
            have p751:0 ≤ ((ji16):Int):=of_decide_eq_true (by first | (with_reducible assumption) | assumption)
            have q751:(ji16) < (x5_1.length:Int):=of_decide_eq_true (by first | (with_reducible assumption) | assumption)
            obtain ⟨ad751,e751,hx751_0⟩:=Kd.at_string (Kd.R_reads' HO_5.out).2.2 (ji16) p751 q751
            cases e751
            replace p751:=eq_true p751
            replace q751:=eq_true q751
            go_wp2
            go_roundg k2
            case measure=>have:=HK1.out;have:=HK2.out;omega
            case rel=>exact ⟨(ji16),(by first | rfl | (simp;done) | (simp only [← hji16] <;> (first | rfl | simp)) | (simp [*];done)),H',⟨by have:=HK1.out;have:=HK2.out;omega⟩,⟨by (with_reducible repeat (first | apply Kd.N_alloc | apply Kd.N_drewN | apply Kd.N_drew));exact HO_4.out⟩,⟨by (with_reducible repeat (first | apply Kd.R_alloc | apply Kd.R_drewN | apply Kd.R_drew));exact HO_5.out⟩,⟨by repeat (first | (with_reducible exact HR749_2.out) | (with_reducible refine Kd.C_alloc ?_ _) | (with_reducible refine Kd.C_drewN ?_ _) | (with_reducible refine Kd.C_drew ?_) | exact HR749_2.out)⟩,⟨by repeat (first | (with_reducible first | exact HB.out | apply below_alloc | apply pw_below_drewN | apply below_drew1) | exact HB.out)⟩⟩
           ·rw [if_neg c19] at H
            have c19b0:(Op.bytesLess t750.toList ((rdOf ByteArray.empty x5_1 (ji16)).toList)) = false:=by simpa using c19
            clear c19
            obtain ⟨y752,hy752⟩:∃ y_:List ByteArray,y_ = (([]:List ByteArray)):=⟨_,rfl⟩
            replace H:(if 0 ≤ x8_2 then (if x8_2 ≤ (x5_1.length:Int) then ((some (x5_1.take (x8_2:Int).toNat:List ByteArray)).bind fun y755=>(if y752.length + y755.length < 8796093022208 then ((some (y752 ++ y755:List ByteArray)).bind fun y760=>((some (([t750]:List ByteArray):List ByteArray)).bind fun y763=>(if y760.length + y763.length < 8796093022208 then ((some (y760 ++ y763:List ByteArray)).bind fun y766=>((some (x5_1.drop (x8_2:Int).toNat:List ByteArray)).bind fun y769=>(if y766.length + y769.length < 8796093022208 then (spec_SealKnown.l0 k2 t743 (y766 ++ y769) (wrap64 (x6_1 + 1))) else (none)))) else (none)))) else (none))) else (none)) else (none)) = some (r1,r2):=by first | (rw [hy752];with_reducible exact H) | (have H2_:=(Option.bind_some _ _).symm.trans H;rw [hy752];with_reducible exact H2_) | (have H2_:=(Option.bind_some _ _).symm.trans H;with_reducible exact H2_) | with_reducible exact H | (rw [hy752];exact H) | exact H
            have Ny752:=Aside0.mk hy752
            clear hy752
            by_cases c20:0 ≤ x8_2
            ·rw [if_pos c20] at H
             have c20b0:=eq_true c20
             have c20b1:decide (0 ≤ x8_2) = true:=decide_eq_true c20
             clear c20
             by_cases c21:x8_2 ≤ (x5_1.length:Int)
             ·rw [if_pos c21] at H
              have c21b0:=eq_true c21
              have c21b1:decide (x8_2 ≤ (x5_1.length:Int)) = true:=decide_eq_true c21
              clear c21
              obtain ⟨y755,hy755⟩:∃ y_:List ByteArray,y_ = (x5_1.take (x8_2:Int).toNat):=⟨_,rfl⟩
              replace H:(if y752.length + y755.length < 8796093022208 then ((some (y752 ++ y755:List ByteArray)).bind fun y760=>((some (([t750]:List ByteArray):List ByteArray)).bind fun y763=>(if y760.length + y763.length < 8796093022208 then ((some (y760 ++ y763:List ByteArray)).bind fun y766=>((some (x5_1.drop (x8_2:Int).toNat:List ByteArray)).bind fun y769=>(if y766.length + y769.length < 8796093022208 then (spec_SealKnown.l0 k2 t743 (y766 ++ y769) (wrap64 (x6_1 + 1))) else (none)))) else (none)))) else (none)) = some (r1,r2):=by first | (rw [hy755];with_reducible exact H) | (have H2_:=(Option.bind_some _ _).symm.trans H;rw [hy755];with_reducible exact H2_) | (have H2_:=(Option.bind_some _ _).symm.trans H;with_reducible exact H2_) | with_reducible exact H | (rw [hy755];exact H) | exact H
              have Ny755:=Aside0.mk hy755
              clear hy755
              by_cases c22:y752.length + y755.length < 8796093022208
              ·rw [if_pos c22] at H
               have LMc22:=Aside0.mk c22
               clear c22
               obtain ⟨y760,hy760⟩:∃ y_:List ByteArray,y_ = (y752 ++ y755):=⟨_,rfl⟩
               replace H:((some (([t750]:List ByteArray):List ByteArray)).bind fun y763=>(if y760.length + y763.length < 8796093022208 then ((some (y760 ++ y763:List ByteArray)).bind fun y766=>((some (x5_1.drop (x8_2:Int).toNat:List ByteArray)).bind fun y769=>(if y766.length + y769.length < 8796093022208 then (spec_SealKnown.l0 k2 t743 (y766 ++ y769) (wrap64 (x6_1 + 1))) else (none)))) else (none))) = some (r1,r2):=by first | (rw [hy760];with_reducible exact H) | (have H2_:=(Option.bind_some _ _).symm.trans H;rw [hy760];with_reducible exact H2_) | (have H2_:=(Option.bind_some _ _).symm.trans H;with_reducible exact H2_) | with_reducible exact H | (rw [hy760];exact H) | exact H
               have Ny760:=Aside0.mk hy760
               clear hy760
               obtain ⟨y763,hy763⟩:∃ y_:List ByteArray,y_ = (([t750]:List ByteArray)):=⟨_,rfl⟩
               replace H:(if y760.length + y763.length < 8796093022208 then ((some (y760 ++ y763:List ByteArray)).bind fun y766=>((some (x5_1.drop (x8_2:Int).toNat:List ByteArray)).bind fun y769=>(if y766.length + y769.length < 8796093022208 then (spec_SealKnown.l0 k2 t743 (y766 ++ y769) (wrap64 (x6_1 + 1))) else (none)))) else (none)) = some (r1,r2):=by first | (rw [hy763];with_reducible exact H) | (have H2_:=(Option.bind_some _ _).symm.trans H;rw [hy763];with_reducible exact H2_) | (have H2_:=(Option.bind_some _ _).symm.trans H;with_reducible exact H2_) | with_reducible exact H | (rw [hy763];exact H) | exact H
               have Ny763:=Aside0.mk hy763
               clear hy763
               by_cases c23:y760.length + y763.length < 8796093022208
               ·rw [if_pos c23] at H
                have LMc23:=Aside0.mk c23
                clear c23
                obtain ⟨y766,hy766⟩:∃ y_:List ByteArray,y_ = (y760 ++ y763):=⟨_,rfl⟩
                replace H:((some (x5_1.drop (x8_2:Int).toNat:List ByteArray)).bind fun y769=>(if y766.length + y769.length < 8796093022208 then (spec_SealKnown.l0 k2 t743 (y766 ++ y769) (wrap64 (x6_1 + 1))) else (none))) = some (r1,r2):=by first | (rw [hy766];with_reducible exact H) | (have H2_:=(Option.bind_some _ _).symm.trans H;rw [hy766];with_reducible exact H2_) | (have H2_:=(Option.bind_some _ _).symm.trans H;with_reducible exact H2_) | with_reducible exact H | (rw [hy766];exact H) | exact H
                have Ny766:=Aside0.mk hy766
                clear hy766
                have c24b0:=eq_true (of_decide_eq_true (by first | (with_reducible assumption) | assumption):0 ≤ x8_2)
                have c25b0:=eq_true (of_decide_eq_true (by first | (with_reducible assumption) | assumption):x8_2 ≤ (x5_1.length:Int))
                obtain ⟨y769,hy769⟩:∃ y_:List ByteArray,y_ = (x5_1.drop (x8_2:Int).toNat):=⟨_,rfl⟩
                replace H:(if y766.length + y769.length < 8796093022208 then (spec_SealKnown.l0 k2 t743 (y766 ++ y769) (wrap64 (x6_1 + 1))) else (none)) = some (r1,r2):=by first | (rw [hy769];with_reducible exact H) | (have H2_:=(Option.bind_some _ _).symm.trans H;rw [hy769];with_reducible exact H2_) | (have H2_:=(Option.bind_some _ _).symm.trans H;with_reducible exact H2_) | with_reducible exact H | (rw [hy769];exact H) | exact H
                have Ny769:=Aside0.mk hy769
                clear hy769
                by_cases c26:y766.length + y769.length < 8796093022208
                ·rw [if_pos c26] at H
                 have LMc26:=Aside0.mk c26
                 clear c26
                 obtain ⟨y774,hy774⟩:∃ y_:List ByteArray,y_ = (y766 ++ y769):=⟨_,rfl⟩
                 replace H:(spec_SealKnown.l0 k2 t743 y774 (wrap64 (x6_1 + 1))) = some (r1,r2):=by first | (rw [hy774];with_reducible exact H) | (have H2_:=(Option.bind_some _ _).symm.trans H;rw [hy774];with_reducible exact H2_) | (have H2_:=(Option.bind_some _ _).symm.trans H;with_reducible exact H2_) | with_reducible exact H | (rw [hy774];exact H) | exact H
                 have Ny774:=Aside0.mk hy774
                 clear hy774
                 have H':=Aside0.mk H
                 clear H
                 have p751:0 ≤ ((ji16):Int):=of_decide_eq_true (by first | (with_reducible assumption) | assumption)
                 have q751:(ji16) < (x5_1.length:Int):=of_decide_eq_true (by first | (with_reducible assumption) | assumption)
                 obtain ⟨ad751,e751,hx751_0⟩:=Kd.at_string (Kd.R_reads' HO_5.out).2.2 (ji16) p751 q751
                 cases e751
                 replace p751:=eq_true p751
                 replace q751:=eq_true q751
                 try go_wp2
                 have n0_:=Aside0.mk (Kd.N_drew HO_4.out)
                 have n1_:=Aside0.mk (Kd.R_drew HO_5.out)
                 have n2_:=Aside0.mk (Kd.C_drew HR749_2.out)
                 have n3_:=Aside0.mk (below_drew1 HB.out)
                 clear HO_4
                 clear HO_5
                 clear HR749_2
                 clear HB
                 have HO_4:=n0_
                 have HO_5:=n1_
                 have HR749_2:=n2_
                 have HB:=n3_
                 clear n0_ n1_ n2_ n3_
                 have q28:(x8_2:Int) ≤ ((x5_1.length:Int):Int):=of_decide_eq_true (by first | (with_reducible assumption) | assumption)
                 obtain ⟨i028,hi028,_,hsz28,_⟩:=info_parts info9
                 have hroom28:x5_1.length ≤ co14:=(Kd.R_reads' HO_5.out).2.1
                 have hC28:Kd.F Kd.string _ _ (some ad751) x5_1.length x5_1:=(Kd.V_at (base:=w.heap.size) (Kd.R_V (Kd.R_apart' (HO_5.out) (Kd.N_typed HO_4.out) (by decide)))).2.2
                 have hcut28:=cut_to (P:=Tryd.prog) 48 9 .i64 Tryd.underlying48 hi028 (some ad751) x5_1.length co14 x8_2 (of_decide_eq_true (by first | (with_reducible assumption) | assumption)) q28 hroom28
                 have hr28:=Kd.F_take (m:=(x8_2:Int).toNat) hC28 (by omega)
                 have hy28:y755.length = (x8_2:Int).toNat:=(by rw [Ny755.out,List.length_take];omega)
                 rw [← Ny755.out] at hr28
                 rw [← hy28] at hcut28
                 have HO759:=Aside0.mk (show Kd.V Kd.string 9 _ w.heap.size _ (.slice (some ad751) y755.length co14) y755 from Kd.V_mk (by omega) hr28)
                 have HC759:=Aside0.mk (show y755.length ≤ co14 from by omega)
                 clear hr28 hC28 hroom28 hi028 hsz28
                 have KY28:=Aside0.mk hy28
                 clear hy28
                 replace q28:=eq_true q28
                 have q29:(x8_2:Int) ≤ ((x5_1.length:Int):Int):=of_decide_eq_true (by first | (with_reducible assumption) | assumption)
                 obtain ⟨i029,hi029,_,hsz29,_⟩:=info_parts info9
                 have hroom29:x5_1.length ≤ co14:=(Kd.R_reads' HO_5.out).2.1
                 have hC29:Kd.F Kd.string _ _ (some ad751) x5_1.length x5_1:=(Kd.V_at (base:=w.heap.size) (Kd.R_V (Kd.R_apart' (HO_5.out) (Kd.N_typed HO_4.out) (by decide)))).2.2
                 have q029:(0:Int) ≤ (x8_2:Int):=of_decide_eq_true (by first | (with_reducible assumption) | assumption)
                 have hcut29:=cut_from (P:=Tryd.prog) 48 9 .i64 Tryd.underlying48 hi029 1 hsz29 (some ad751) x5_1.length co14 x8_2 q029 q29
                 have hr29:=Kd.F_cut (m:=(x8_2:Int).toNat) (c:=co14) hC29 (by omega) hroom29
                 obtain ⟨A29,hA29⟩:∃ A1,A1 = (if co14 = (x8_2:Int).toNat then (some ad751) else ((some ad751):Option Addr).map (·.add ((x8_2:Int).toNat * 1))):=⟨_,rfl⟩
                 obtain ⟨c29,hc29⟩:∃ c1,c1 = co14 - (x8_2:Int).toNat:=⟨_,rfl⟩
                 have hy29:y769.length = x5_1.length - (x8_2:Int).toNat:=(by rw [Ny769.out,List.length_drop] <;> omega)
                 rw [show (x5_1).drop (x8_2:Int).toNat = y769 from Ny769.out.symm] at hr29
                 replace hr29:Kd.F Kd.string _ _ A29 y769.length y769:=(by rw [hA29];exact hr29)
                 rw [← hy29,← hA29,← hc29] at hcut29
                 have HO773:=Aside0.mk (show Kd.V Kd.string 9 _ w.heap.size _ (.slice A29 y769.length c29) y769 from Kd.V_mk (by rw [hy29,hc29];exact Nat.sub_le_sub_right hroom29 _) hr29)
                 have HC773:=Aside0.mk (show y769.length ≤ c29 from by rw [hy29,hc29];exact Nat.sub_le_sub_right hroom29 _)
                 clear hr29 hC29 hroom29 hi029 hsz29 hc29
                 have KY29:=Aside0.mk hy29
                 have KA29:=Aside0.mk hA29
                 clear hy29 hA29
                 replace q29:=eq_true q29
                 refine start_ (n:=13) (S:=fun w'=>True) (ds:=[]) #[false,false,false,false,false,false,false,false,false,false,false,false,false] (by kernel_rfl) rfl rfl trivial (fun hHeld=>?_);refine with_tabW spec_SealKnown.tab12 spec_SealKnown.bits12 (fun HT_ HW_=>?_)
                 generalize wr.drew = w27 at HO_4 HO_5 HR749_2 HB HO759 HO773 hHeld ⊢
                 refine pure_ (i:=1) (N:=some 42) (v:=?_) (a':=?_) #[false,true,false,false,false,false,false,false,false,false,false,false,false] rfl rfl (any_of HT_.out (by kernel_rfl)) (fun _ _ _ h=>h) (Or.inl ⟨by rfl,?_⟩) ?_ ?_
                 rotate_left;·intro w';go_simp;with_reducible rfl
                 rotate_left;·simp only [Act.put,List.setIfInBounds_toArray,List.set_cons_zero,List.set_cons_succ,i64_w,i32_w];rfl
                 refine pure_ (i:=2) (N:=some 43) (v:=?_) (a':=?_) #[false,true,true,false,false,false,false,false,false,false,false,false,false] rfl rfl (any_of HT_.out (by kernel_rfl)) (fun _ _ _ h=>h) (Or.inl ⟨by rfl,?_⟩) ?_ ?_
                 rotate_left;·intro w';go_simp;with_reducible rfl
                 rotate_left;·simp only [Act.put,List.setIfInBounds_toArray,List.set_cons_zero,List.set_cons_succ,i64_w,i32_w];rfl
                 refine pure_ (i:=3) (N:=some 44) (v:=?_) (a':=?_) #[false,true,true,true,false,false,false,false,false,false,false,false,false] rfl rfl (any_of HT_.out (by kernel_rfl)) (fun _ _ _ h=>h) (Or.inl ⟨by rfl,?_⟩) ?_ ?_
                 rotate_left;·intro w';go_simp;with_reducible rfl
                 rotate_left;·simp only [Act.put,List.setIfInBounds_toArray,List.set_cons_zero,List.set_cons_succ,i64_w,i32_w];rfl
                 refine pure_ (i:=5) (N:=some 46) (v:=?_) (a':=?_) #[false,true,true,true,false,true,false,false,false,false,false,false,false] rfl rfl (any_of HT_.out (by kernel_rfl)) (fun _ _ _ h=>h) (Or.inl ⟨by rfl,?_⟩) ?_ ?_
                 rotate_left;·intro w';go_simp;with_reducible rfl
                 rotate_left;·simp only [Act.put,List.setIfInBounds_toArray,List.set_cons_zero,List.set_cons_succ,i64_w,i32_w];rfl
                 refine pure_ (i:=8) (N:=some 49) (v:=?_) (a':=?_) #[false,true,true,true,false,true,false,false,true,false,false,false,false] rfl rfl (any_of HT_.out (by kernel_rfl)) (fun _ _ _ h=>h) (Or.inl ⟨by rfl,?_⟩) ?_ ?_
                 rotate_left;·intro w';go_simp;with_reducible rfl
                 rotate_left;·simp only [Act.put,List.setIfInBounds_toArray,List.set_cons_zero,List.set_cons_succ,i64_w,i32_w];rfl
                 refine pure_ (i:=9) (N:=some 50) (v:=?_) (a':=?_) #[false,true,true,true,false,true,false,false,true,true,false,false,false] rfl rfl (any_of HT_.out (by kernel_rfl)) (fun _ _ _ h=>h) (Or.inl ⟨by rfl,?_⟩) ?_ ?_
                 rotate_left;·intro w';go_simp;with_reducible rfl
                 rotate_left;·simp only [Act.put,List.setIfInBounds_toArray,List.set_cons_zero,List.set_cons_succ,i64_w,i32_w];rfl
                 refine pure_ (i:=10) (N:=some 51) (v:=?_) (a':=?_) #[false,true,true,true,false,true,false,false,true,true,true,false,false] rfl rfl (any_of HT_.out (by kernel_rfl)) (fun _ _ _ h=>h) (Or.inl ⟨by rfl,?_⟩) ?_ ?_
                 rotate_left;·intro w';go_simp;with_reducible rfl
                 rotate_left;·simp only [Act.put,List.setIfInBounds_toArray,List.set_cons_zero,List.set_cons_succ,i64_w,i32_w];rfl
                 refine join_ (σ:=Value × Value × Value) 3 #[true,true,true,true,true,true,true,false,true,true,true,false,false] (fun s_=>[(41,s_.1),(45,s_.2.1),(47,s_.2.2)]) (fun s_ w'=>(Kd.V Kd.string 9 w' w.heap.size (fun k_=>some k_ ≠ (s_.2.1:Value).ownBlock∧some k_ ≠ (s_.2.2:Value).ownBlock∧some k_ ≠ (.slice (some ad749) t743.length co12:Value).ownBlock) (.slice (some ad751) y755.length co14) y755)∧(Kd.R Kd.string 9 w' w.heap.size (fun k_=>some k_ ≠ (s_.2.2:Value).ownBlock∧some k_ ≠ (.slice (some ad751) x5_1.length co14:Value).ownBlock) s_.2.1 y760)∧(Kd.R Kd.string 9 w' w.heap.size (fun k_=>some k_ ≠ (s_.2.1:Value).ownBlock∧some k_ ≠ (.slice (some ad751) x5_1.length co14:Value).ownBlock) s_.2.2 y763)∧(Kd.V Kd.string 9 w' w.heap.size (fun k_=>some k_ ≠ (s_.2.1:Value).ownBlock∧some k_ ≠ (s_.2.2:Value).ownBlock∧some k_ ≠ (.slice (some ad749) t743.length co12:Value).ownBlock) (.slice A29 y769.length c29) y769)∧(Kd.N k25 25 w' w.heap.size (fun k_=>some k_ ≠ (s_.2.1:Value).ownBlock∧some k_ ≠ (s_.2.2:Value).ownBlock∧some k_ ≠ (.slice (some ad751) x5_1.length co14:Value).ownBlock) (.slice (some ad749) t743.length co12) t743)∧(Kd.R Kd.string 9 w' w.heap.size (fun k_=>some k_ ≠ (s_.2.1:Value).ownBlock∧some k_ ≠ (s_.2.2:Value).ownBlock) (.slice (some ad751) x5_1.length co14) x5_1)∧(Below w.heap.size w w')) ?_ ?_
                 rotate_left
                 ·intro hCont
                  refine two_ (i:=0) (j:=6) (Ni:=some 41) (Nj:=some 47) #[true,true,true,true,false,true,false,false,true,true,true,false,false] #[false,true,true,true,false,true,true,false,true,true,true,false,false] rfl rfl rfl rfl (two_of HT_.out (by kernel_rfl)) (by decide) (by decide) (fun K hK=>?_) (fun K hK=>?_)
                  ·skip
                   refine Kd.R_lit_step Kd.string _ 9 ?hg (N:=41) ?hd (xs:=([]:List ByteArray)) (inner:=[]) (ok:=fun _=>True) (okp:=fun _=>True) ?hr ?hp (fun _ hk=>hk) trivial (Below.refl _ _) (Nat.le_refl _) (by simp) ?_;(case hd=>rfl);(case hg=>rfl);(case hr=>first | (go_simp;done) | (go_simp;rfl));(case hp=>exact (Reps.none _ _))
                   intro v753 w30 ho31 hb hg_ hnew_
                   clear hg_ hnew_
                   (first | rw [← Ny752.out] at ho31 | (simp only [Int.reduceToNat] at ho31;rw [← Ny752.out] at ho31))
                   have n0_:=Aside0.mk (Kd.N_elder' (by (with_reducible repeat (first | apply Kd.N_alloc | apply Kd.N_drewN | apply Kd.N_drew));exact HO_4.out) (Kd.R_base ho31) hb)
                   have n1_:=Aside0.mk (Kd.R_elder' (by (with_reducible repeat (first | apply Kd.R_alloc | apply Kd.R_drewN | apply Kd.R_drew));exact HO_5.out) (Kd.R_base ho31) hb)
                   have n2_:=Aside0.mk (Kd.V_elder' (by (with_reducible repeat (first | apply Kd.V_alloc | apply Kd.V_drewN | apply Kd.V_drew));exact HO759.out) (Kd.R_base ho31) hb)
                   have n3_:=Aside0.mk (Kd.V_elder' (by (with_reducible repeat (first | apply Kd.V_alloc | apply Kd.V_drewN | apply Kd.V_drew));exact HO773.out) (Kd.R_base ho31) hb)
                   have n4_:=Aside0.mk (Kd.R_lower (Kd.R_new' ho31 (Kd.R_lt (by (with_reducible repeat (first | apply Kd.R_alloc | apply Kd.R_drewN | apply Kd.R_drew));exact HO_5.out))) (below_size (by repeat (first | (with_reducible first | exact HB.out | apply below_alloc | apply pw_below_drewN | apply below_drew1) | exact HB.out))))
                   have n5_:=Aside0.mk (Kd.C_below (by repeat (first | (with_reducible exact HR749_2.out) | (with_reducible refine Kd.C_alloc ?_ _) | (with_reducible refine Kd.C_drewN ?_ _) | (with_reducible refine Kd.C_drew ?_) | exact HR749_2.out)) hb)
                   have n6_:=Aside0.mk (below_step (by repeat (first | (with_reducible first | exact HB.out | apply below_alloc | apply pw_below_drewN | apply below_drew1) | exact HB.out)) hb)
                   clear HO_4
                   clear HO_5
                   clear HO759
                   clear HO773
                   clear HR749_2
                   clear HB
                   have HO_4:=n0_
                   have HO_5:=n1_
                   have HO759:=n2_
                   have HO773:=n3_
                   have HO754:=n4_
                   have HR749_2:=n5_
                   have HB:=n6_
                   clear n0_ n1_ n2_ n3_ n4_ n5_ n6_
                   clear hb ho31
                   refine hK.out _ _ trivial (fun hHeld=>?_)
                   clear hK K
                   refine norm_ (a':=?_) ?_ ?_
                   rotate_left
                   ·show Act.put _ (some 41) _ = _
                    simp only [Act.put,List.setIfInBounds_toArray,List.set_cons_zero,List.set_cons_succ,i64_w,i32_w]
                    rfl
                   refine two_ (i:=4) (j:=6) (Ni:=some 45) (Nj:=some 47) #[true,true,true,true,true,true,false,false,true,true,true,false,false] #[true,true,true,true,false,true,true,false,true,true,true,false,false] rfl rfl rfl rfl (two_of HT_.out (by kernel_rfl)) (by decide) (by decide) (fun K hK=>?_) (fun K hK=>?_)
                   ·skip
                    refine Kd.R_append_rows_step Kd.string (w0:=w) w.heap.size (by rfl) (.tmp 41) (.tmp 44) 48 9 (.string ⟨#[]⟩) 16 rfl Tryd.underlying48 info9 rfl (by decide) (by omega) v753 y752 y755 _ _ _ (fun k_=>some k_ ≠ (.slice (some ad751) x5_1.length co14:Value).ownBlock) (fun _=>False) rfl rfl ?aO ?aR (fun _ _ h=>h) (fun _ h=>h.elim) ?aF ?aB ?aS ?aL ?_
                    (case aR=>repeat (first | exact (Kd.V_reads' HO759.out).2.2 | (with_reducible refine Kd.C_alloc ?_ _) | (with_reducible refine Kd.C_drewN ?_ _) | (with_reducible refine Kd.C_drew ?_)))
                    (case aB=>exact (by repeat (first | (with_reducible first | exact HB.out | apply below_alloc | apply pw_below_drewN | apply below_drew1) | exact HB.out)))
                    (case aF=>exact (fun k_ hk=>Kd.fresh' (Kd.R_lt (by (with_reducible repeat (first | apply Kd.R_alloc | apply Kd.R_drewN | apply Kd.R_drew));exact HO_5.out)) k_ hk))
                    (case aO=>exact (by (with_reducible repeat (first | apply Kd.R_alloc | apply Kd.R_drewN | apply Kd.R_drew));exact Kd.R_mono HO754.out (fun _ hk=>hk.2)))
                    (case aS=>exact (below_size (by repeat (first | (with_reducible first | exact HB.out | apply below_alloc | apply pw_below_drewN | apply below_drew1) | exact HB.out))))
                    (case aL=>have:=LMc22.out;omega)
                    intro v761 w32 ho hb hg hat
                    rw [← Ny760.out] at ho
                    have n0_:=Aside0.mk (Kd.N_afterv (ok:=(fun k_=>some k_ ≠ (.slice (some ad751) x5_1.length co14:Value).ownBlock)) (by (with_reducible repeat (first | apply Kd.N_alloc | apply Kd.N_drewN | apply Kd.N_drew));exact HO_4.out) hg hat)
                    have n1_:=Aside0.mk (Kd.R_after (ok:=(fun _=>True)) (by (with_reducible repeat (first | apply Kd.R_alloc | apply Kd.R_drewN | apply Kd.R_drew));exact HO_5.out) hg hat)
                    have n2_:=Aside0.mk (Kd.V_afterv (ok:=(fun k_=>some k_ ≠ (.slice (some ad749) t743.length co12:Value).ownBlock)) (by (with_reducible repeat (first | apply Kd.V_alloc | apply Kd.V_drewN | apply Kd.V_drew));exact Kd.V_mono HO759.out (fun _ hk=>⟨hk.1.2,hk.2⟩)) hg hat)
                    have n3_:=Aside0.mk (Kd.V_afterv (ok:=(fun k_=>some k_ ≠ (.slice (some ad749) t743.length co12:Value).ownBlock)) (by (with_reducible repeat (first | apply Kd.V_alloc | apply Kd.V_drewN | apply Kd.V_drew));exact Kd.V_mono HO773.out (fun _ hk=>⟨hk.1.2,hk.2⟩)) hg hat)
                    have n4_:=Aside0.mk (hb)
                    have n5_:=Aside0.mk (ho)
                    clear HO_4
                    clear HO_5
                    clear HO759
                    clear HO773
                    clear HB
                    clear HO754
                    have HO_4:=n0_
                    have HO_5:=n1_
                    have HO759:=n2_
                    have HO773:=n3_
                    have HB:=n4_
                    have HO762:=n5_
                    clear n0_ n1_ n2_ n3_ n4_ n5_
                    clear ho hb hg hat
                    refine hK.out _ _ trivial (fun hHeld=>?_)
                    clear hK K
                    refine norm_ (a':=?_) ?_ ?_
                    rotate_left
                    ·show Act.put _ (some 45) _ = _
                     simp only [Act.put,List.setIfInBounds_toArray,List.set_cons_zero,List.set_cons_succ,i64_w,i32_w]
                     rfl
                    refine one_ (i:=6) (N:=some 47) #[true,true,true,true,true,true,true,false,true,true,true,false,false] rfl rfl (one_of HT_.out (by kernel_rfl)) (by decide) (fun K hK=>?_)
                    refine Kd.R_lit_step Kd.string _ 9 ?hg (N:=47) ?hd (xs:=([t750]:List ByteArray)) (inner:=[.string t750]) (ok:=fun _=>True) (okp:=fun _=>True) ?hr ?hp (fun _ hk=>hk) trivial (Below.refl _ _) (Nat.le_refl _) (by simp) ?_;(case hd=>rfl);(case hg=>rfl);(case hr=>first | (go_simp;done) | (go_simp;rfl));(case hp=>exact (Reps.one (show Kd.M Kd.string _ _ _ t750 [.string t750] from rfl) (Reps.none _ _)))
                    intro v764 w33 ho34 hb hg_ hnew_
                    clear hg_ hnew_
                    (first | rw [← Ny763.out] at ho34 | (simp only [Int.reduceToNat] at ho34;rw [← Ny763.out] at ho34))
                    have n0_:=Aside0.mk (Kd.N_elder' (by (with_reducible repeat (first | apply Kd.N_alloc | apply Kd.N_drewN | apply Kd.N_drew));exact HO_4.out) (Kd.R_base ho34) hb)
                    have n1_:=Aside0.mk (Kd.R_elder' (by (with_reducible repeat (first | apply Kd.R_alloc | apply Kd.R_drewN | apply Kd.R_drew));exact HO_5.out) (Kd.R_base ho34) hb)
                    have n2_:=Aside0.mk (Kd.V_elder' (by (with_reducible repeat (first | apply Kd.V_alloc | apply Kd.V_drewN | apply Kd.V_drew));exact HO759.out) (Kd.R_base ho34) hb)
                    have n3_:=Aside0.mk (Kd.V_elder' (by (with_reducible repeat (first | apply Kd.V_alloc | apply Kd.V_drewN | apply Kd.V_drew));exact HO773.out) (Kd.R_base ho34) hb)
                    have n4_:=Aside0.mk (Kd.R_elder' (by (with_reducible repeat (first | apply Kd.R_alloc | apply Kd.R_drewN | apply Kd.R_drew));exact HO762.out) (Kd.R_base ho34) hb)
                    have n5_:=Aside0.mk (Kd.R_lower (Kd.R_new' (Kd.R_new' ho34 (Kd.R_lt (by (with_reducible repeat (first | apply Kd.R_alloc | apply Kd.R_drewN | apply Kd.R_drew));exact HO_5.out))) (Kd.R_lt (by (with_reducible repeat (first | apply Kd.R_alloc | apply Kd.R_drewN | apply Kd.R_drew));exact HO762.out))) (below_size (by repeat (first | (with_reducible first | exact HB.out | apply below_alloc | apply pw_below_drewN | apply below_drew1) | exact HB.out))))
                    have n6_:=Aside0.mk (below_step (by repeat (first | (with_reducible first | exact HB.out | apply below_alloc | apply pw_below_drewN | apply below_drew1) | exact HB.out)) hb)
                    clear HO_4
                    clear HO_5
                    clear HO759
                    clear HO773
                    clear HO762
                    clear HB
                    have HO_4:=n0_
                    have HO_5:=n1_
                    have HO759:=n2_
                    have HO773:=n3_
                    have HO762:=n4_
                    have HO765:=n5_
                    have HB:=n6_
                    clear n0_ n1_ n2_ n3_ n4_ n5_ n6_
                    clear hb ho34
                    refine hK.out _ _ trivial (fun hHeld=>?_)
                    clear hK K
                    refine norm_ (a':=?_) ?_ ?_
                    rotate_left
                    ·show Act.put _ (some 47) _ = _
                     simp only [Act.put,List.setIfInBounds_toArray,List.set_cons_zero,List.set_cons_succ,i64_w,i32_w]
                     rfl
                    exact norm_ (by simp only [putAll,Act.put,List.setIfInBounds_toArray,List.set_cons_zero,List.set_cons_succ]) (hCont (v753,v761,v764) _ ⟨(by (with_reducible repeat (first | apply Kd.V_alloc | apply Kd.V_drewN | apply Kd.V_drew));exact Kd.V_mono HO759.out (fun _ hk=>⟨hk.1.2,⟨hk.2,hk.1.1⟩⟩)),(by (with_reducible repeat (first | apply Kd.R_alloc | apply Kd.R_drewN | apply Kd.R_drew));exact Kd.R_mono HO762.out (fun _ hk=>⟨hk.2,hk.1⟩)),(by (with_reducible repeat (first | apply Kd.R_alloc | apply Kd.R_drewN | apply Kd.R_drew));exact Kd.R_mono HO765.out (fun _ hk=>⟨hk.2,hk.1.2⟩)),(by (with_reducible repeat (first | apply Kd.V_alloc | apply Kd.V_drewN | apply Kd.V_drew));exact Kd.V_mono HO773.out (fun _ hk=>⟨hk.1.2,⟨hk.2,hk.1.1⟩⟩)),(by (with_reducible repeat (first | apply Kd.N_alloc | apply Kd.N_drewN | apply Kd.N_drew));exact Kd.N_mono HO_4.out (fun _ hk=>⟨hk.1.2,⟨hk.2,hk.1.1⟩⟩)),(by (with_reducible repeat (first | apply Kd.R_alloc | apply Kd.R_drewN | apply Kd.R_drew));exact Kd.R_mono HO_5.out (fun _ hk=>⟨hk.1.2,hk.2⟩)),(by repeat (first | (with_reducible first | exact HB.out | apply below_alloc | apply pw_below_drewN | apply below_drew1) | exact HB.out))⟩)
                   ·skip
                    refine Kd.R_lit_step Kd.string _ 9 ?hg (N:=47) ?hd (xs:=([t750]:List ByteArray)) (inner:=[.string t750]) (ok:=fun _=>True) (okp:=fun _=>True) ?hr ?hp (fun _ hk=>hk) trivial (Below.refl _ _) (Nat.le_refl _) (by simp) ?_;(case hd=>rfl);(case hg=>rfl);(case hr=>first | (go_simp;done) | (go_simp;rfl));(case hp=>exact (Reps.one (show Kd.M Kd.string _ _ _ t750 [.string t750] from rfl) (Reps.none _ _)))
                    intro v764 w32 ho33 hb hg_ hnew_
                    clear hg_ hnew_
                    (first | rw [← Ny763.out] at ho33 | (simp only [Int.reduceToNat] at ho33;rw [← Ny763.out] at ho33))
                    have n0_:=Aside0.mk (Kd.N_elder' (by (with_reducible repeat (first | apply Kd.N_alloc | apply Kd.N_drewN | apply Kd.N_drew));exact HO_4.out) (Kd.R_base ho33) hb)
                    have n1_:=Aside0.mk (Kd.R_elder' (by (with_reducible repeat (first | apply Kd.R_alloc | apply Kd.R_drewN | apply Kd.R_drew));exact HO_5.out) (Kd.R_base ho33) hb)
                    have n2_:=Aside0.mk (Kd.V_elder' (by (with_reducible repeat (first | apply Kd.V_alloc | apply Kd.V_drewN | apply Kd.V_drew));exact HO759.out) (Kd.R_base ho33) hb)
                    have n3_:=Aside0.mk (Kd.V_elder' (by (with_reducible repeat (first | apply Kd.V_alloc | apply Kd.V_drewN | apply Kd.V_drew));exact HO773.out) (Kd.R_base ho33) hb)
                    have n4_:=Aside0.mk (Kd.R_elder' (by (with_reducible repeat (first | apply Kd.R_alloc | apply Kd.R_drewN | apply Kd.R_drew));exact HO754.out) (Kd.R_base ho33) hb)
                    have n5_:=Aside0.mk (Kd.R_lower (Kd.R_new' (Kd.R_new' ho33 (Kd.R_lt (by (with_reducible repeat (first | apply Kd.R_alloc | apply Kd.R_drewN | apply Kd.R_drew));exact HO_5.out))) (Kd.R_lt (by (with_reducible repeat (first | apply Kd.R_alloc | apply Kd.R_drewN | apply Kd.R_drew));exact HO754.out))) (below_size (by repeat (first | (with_reducible first | exact HB.out | apply below_alloc | apply pw_below_drewN | apply below_drew1) | exact HB.out))))
                    have n6_:=Aside0.mk (Kd.C_below (by repeat (first | (with_reducible exact HR749_2.out) | (with_reducible refine Kd.C_alloc ?_ _) | (with_reducible refine Kd.C_drewN ?_ _) | (with_reducible refine Kd.C_drew ?_) | exact HR749_2.out)) hb)
                    have n7_:=Aside0.mk (below_step (by repeat (first | (with_reducible first | exact HB.out | apply below_alloc | apply pw_below_drewN | apply below_drew1) | exact HB.out)) hb)
                    clear HO_4
                    clear HO_5
                    clear HO759
                    clear HO773
                    clear HO754
                    clear HR749_2
                    clear HB
                    have HO_4:=n0_
                    have HO_5:=n1_
                    have HO759:=n2_
                    have HO773:=n3_
                    have HO754:=n4_
                    have HO765:=n5_
                    have HR749_2:=n6_
                    have HB:=n7_
                    clear n0_ n1_ n2_ n3_ n4_ n5_ n6_ n7_
                    clear hb ho33
                    refine hK.out _ _ trivial (fun hHeld=>?_)
                    clear hK K
                    refine norm_ (a':=?_) ?_ ?_
                    rotate_left
                    ·show Act.put _ (some 47) _ = _
                     simp only [Act.put,List.setIfInBounds_toArray,List.set_cons_zero,List.set_cons_succ,i64_w,i32_w]
                     rfl
                    refine one_ (i:=4) (N:=some 45) #[true,true,true,true,true,true,true,false,true,true,true,false,false] rfl rfl (one_of HT_.out (by kernel_rfl)) (by decide) (fun K hK=>?_)
                    refine Kd.R_append_rows_step Kd.string (w0:=w) w.heap.size (by rfl) (.tmp 41) (.tmp 44) 48 9 (.string ⟨#[]⟩) 16 rfl Tryd.underlying48 info9 rfl (by decide) (by omega) v753 y752 y755 _ _ _ (fun k_=>some k_ ≠ (.slice (some ad751) x5_1.length co14:Value).ownBlock∧some k_ ≠ (v764:Value).ownBlock) (fun _=>False) rfl rfl ?aO ?aR (fun _ _ h=>h) (fun _ h=>h.elim) ?aF ?aB ?aS ?aL ?_
                    (case aR=>repeat (first | exact (Kd.V_reads' HO759.out).2.2 | (with_reducible refine Kd.C_alloc ?_ _) | (with_reducible refine Kd.C_drewN ?_ _) | (with_reducible refine Kd.C_drew ?_)))
                    (case aB=>exact (by repeat (first | (with_reducible first | exact HB.out | apply below_alloc | apply pw_below_drewN | apply below_drew1) | exact HB.out)))
                    (case aF=>exact (fun k_ hk=>⟨Kd.fresh' (Kd.R_lt (by (with_reducible repeat (first | apply Kd.R_alloc | apply Kd.R_drewN | apply Kd.R_drew));exact HO_5.out)) k_ hk,Kd.fresh' (Kd.R_lt (by (with_reducible repeat (first | apply Kd.R_alloc | apply Kd.R_drewN | apply Kd.R_drew));exact HO765.out)) k_ hk⟩))
                    (case aO=>exact (by (with_reducible repeat (first | apply Kd.R_alloc | apply Kd.R_drewN | apply Kd.R_drew));exact Kd.R_mono HO754.out (fun _ hk=>⟨hk.1.2,hk.2⟩)))
                    (case aS=>exact (below_size (by repeat (first | (with_reducible first | exact HB.out | apply below_alloc | apply pw_below_drewN | apply below_drew1) | exact HB.out))))
                    (case aL=>have:=LMc22.out;omega)
                    intro v761 w34 ho hb hg hat
                    rw [← Ny760.out] at ho
                    have n0_:=Aside0.mk (Kd.N_afterv (ok:=(fun k_=>some k_ ≠ (.slice (some ad751) x5_1.length co14:Value).ownBlock∧some k_ ≠ (v764:Value).ownBlock)) (by (with_reducible repeat (first | apply Kd.N_alloc | apply Kd.N_drewN | apply Kd.N_drew));exact Kd.N_mono HO_4.out (fun _ hk=>⟨⟨hk.1.1,hk.2⟩,hk.1.2⟩)) hg hat)
                    have n1_:=Aside0.mk (Kd.R_after (ok:=(fun k_=>some k_ ≠ (v764:Value).ownBlock)) (by (with_reducible repeat (first | apply Kd.R_alloc | apply Kd.R_drewN | apply Kd.R_drew));exact Kd.R_mono HO_5.out (fun _ hk=>⟨hk.2,hk.1.2⟩)) hg hat)
                    have n2_:=Aside0.mk (Kd.V_afterv (ok:=(fun k_=>some k_ ≠ (.slice (some ad749) t743.length co12:Value).ownBlock∧some k_ ≠ (v764:Value).ownBlock)) (by (with_reducible repeat (first | apply Kd.V_alloc | apply Kd.V_drewN | apply Kd.V_drew));exact Kd.V_mono HO759.out (fun _ hk=>⟨⟨hk.1.1.2,hk.2⟩,hk.1.2⟩)) hg hat)
                    have n3_:=Aside0.mk (Kd.V_afterv (ok:=(fun k_=>some k_ ≠ (.slice (some ad749) t743.length co12:Value).ownBlock∧some k_ ≠ (v764:Value).ownBlock)) (by (with_reducible repeat (first | apply Kd.V_alloc | apply Kd.V_drewN | apply Kd.V_drew));exact Kd.V_mono HO773.out (fun _ hk=>⟨⟨hk.1.1.2,hk.2⟩,hk.1.2⟩)) hg hat)
                    have n4_:=Aside0.mk (Kd.R_after (ok:=(fun k_=>some k_ ≠ (.slice (some ad751) x5_1.length co14:Value).ownBlock)) (by (with_reducible repeat (first | apply Kd.R_alloc | apply Kd.R_drewN | apply Kd.R_drew));exact Kd.R_mono HO765.out (fun _ hk=>⟨hk.1.2,hk.2⟩)) hg hat)
                    have n5_:=Aside0.mk (hb)
                    have n6_:=Aside0.mk (ho)
                    clear HO_4
                    clear HO_5
                    clear HO759
                    clear HO773
                    clear HO765
                    clear HB
                    clear HO754
                    have HO_4:=n0_
                    have HO_5:=n1_
                    have HO759:=n2_
                    have HO773:=n3_
                    have HO765:=n4_
                    have HB:=n5_
                    have HO762:=n6_
                    clear n0_ n1_ n2_ n3_ n4_ n5_ n6_
                    clear ho hb hg hat
                    refine hK.out _ _ trivial (fun hHeld=>?_)
                    clear hK K
                    refine norm_ (a':=?_) ?_ ?_
                    rotate_left
                    ·show Act.put _ (some 45) _ = _
                     simp only [Act.put,List.setIfInBounds_toArray,List.set_cons_zero,List.set_cons_succ,i64_w,i32_w]
                     rfl
                    exact norm_ (by simp only [putAll,Act.put,List.setIfInBounds_toArray,List.set_cons_zero,List.set_cons_succ]) (hCont (v753,v761,v764) _ ⟨(by (with_reducible repeat (first | apply Kd.V_alloc | apply Kd.V_drewN | apply Kd.V_drew));exact Kd.V_mono HO759.out (fun _ hk=>⟨hk.2,⟨hk.1.2,hk.1.1⟩⟩)),(by (with_reducible repeat (first | apply Kd.R_alloc | apply Kd.R_drewN | apply Kd.R_drew));exact Kd.R_mono HO762.out (fun _ hk=>⟨hk.2,hk.1⟩)),(by (with_reducible repeat (first | apply Kd.R_alloc | apply Kd.R_drewN | apply Kd.R_drew));exact Kd.R_mono HO765.out (fun _ hk=>⟨hk.2,hk.1⟩)),(by (with_reducible repeat (first | apply Kd.V_alloc | apply Kd.V_drewN | apply Kd.V_drew));exact Kd.V_mono HO773.out (fun _ hk=>⟨hk.2,⟨hk.1.2,hk.1.1⟩⟩)),(by (with_reducible repeat (first | apply Kd.N_alloc | apply Kd.N_drewN | apply Kd.N_drew));exact Kd.N_mono HO_4.out (fun _ hk=>⟨hk.2,⟨hk.1.2,hk.1.1⟩⟩)),(by (with_reducible repeat (first | apply Kd.R_alloc | apply Kd.R_drewN | apply Kd.R_drew));exact Kd.R_mono HO_5.out (fun _ hk=>⟨hk.2,hk.1⟩)),(by repeat (first | (with_reducible first | exact HB.out | apply below_alloc | apply pw_below_drewN | apply below_drew1) | exact HB.out))⟩)
                  ·skip
                   refine Kd.R_lit_step Kd.string _ 9 ?hg (N:=47) ?hd (xs:=([t750]:List ByteArray)) (inner:=[.string t750]) (ok:=fun _=>True) (okp:=fun _=>True) ?hr ?hp (fun _ hk=>hk) trivial (Below.refl _ _) (Nat.le_refl _) (by simp) ?_;(case hd=>rfl);(case hg=>rfl);(case hr=>first | (go_simp;done) | (go_simp;rfl));(case hp=>exact (Reps.one (show Kd.M Kd.string _ _ _ t750 [.string t750] from rfl) (Reps.none _ _)))
                   intro v764 w30 ho31 hb hg_ hnew_
                   clear hg_ hnew_
                   (first | rw [← Ny763.out] at ho31 | (simp only [Int.reduceToNat] at ho31;rw [← Ny763.out] at ho31))
                   have n0_:=Aside0.mk (Kd.N_elder' (by (with_reducible repeat (first | apply Kd.N_alloc | apply Kd.N_drewN | apply Kd.N_drew));exact HO_4.out) (Kd.R_base ho31) hb)
                   have n1_:=Aside0.mk (Kd.R_elder' (by (with_reducible repeat (first | apply Kd.R_alloc | apply Kd.R_drewN | apply Kd.R_drew));exact HO_5.out) (Kd.R_base ho31) hb)
                   have n2_:=Aside0.mk (Kd.V_elder' (by (with_reducible repeat (first | apply Kd.V_alloc | apply Kd.V_drewN | apply Kd.V_drew));exact HO759.out) (Kd.R_base ho31) hb)
                   have n3_:=Aside0.mk (Kd.V_elder' (by (with_reducible repeat (first | apply Kd.V_alloc | apply Kd.V_drewN | apply Kd.V_drew));exact HO773.out) (Kd.R_base ho31) hb)
                   have n4_:=Aside0.mk (Kd.R_lower (Kd.R_new' ho31 (Kd.R_lt (by (with_reducible repeat (first | apply Kd.R_alloc | apply Kd.R_drewN | apply Kd.R_drew));exact HO_5.out))) (below_size (by repeat (first | (with_reducible first | exact HB.out | apply below_alloc | apply pw_below_drewN | apply below_drew1) | exact HB.out))))
                   have n5_:=Aside0.mk (Kd.C_below (by repeat (first | (with_reducible exact HR749_2.out) | (with_reducible refine Kd.C_alloc ?_ _) | (with_reducible refine Kd.C_drewN ?_ _) | (with_reducible refine Kd.C_drew ?_) | exact HR749_2.out)) hb)
                   have n6_:=Aside0.mk (below_step (by repeat (first | (with_reducible first | exact HB.out | apply below_alloc | apply pw_below_drewN | apply below_drew1) | exact HB.out)) hb)
                   clear HO_4
                   clear HO_5
                   clear HO759
                   clear HO773
                   clear HR749_2
                   clear HB
                   have HO_4:=n0_
                   have HO_5:=n1_
                   have HO759:=n2_
                   have HO773:=n3_
                   have HO765:=n4_
                   have HR749_2:=n5_
                   have HB:=n6_
                   clear n0_ n1_ n2_ n3_ n4_ n5_ n6_
                   clear hb ho31
                   refine hK.out _ _ trivial (fun hHeld=>?_)
                   clear hK K
                   refine norm_ (a':=?_) ?_ ?_
                   rotate_left
                   ·show Act.put _ (some 47) _ = _
                    simp only [Act.put,List.setIfInBounds_toArray,List.set_cons_zero,List.set_cons_succ,i64_w,i32_w]
                    rfl
                   refine one_ (i:=0) (N:=some 41) #[true,true,true,true,false,true,true,false,true,true,true,false,false] rfl rfl (one_of HT_.out (by kernel_rfl)) (by decide) (fun K hK=>?_)
                   refine Kd.R_lit_step Kd.string _ 9 ?hg (N:=41) ?hd (xs:=([]:List ByteArray)) (inner:=[]) (ok:=fun _=>True) (okp:=fun _=>True) ?hr ?hp (fun _ hk=>hk) trivial (Below.refl _ _) (Nat.le_refl _) (by simp) ?_;(case hd=>rfl);(case hg=>rfl);(case hr=>first | (go_simp;done) | (go_simp;rfl));(case hp=>exact (Reps.none _ _))
                   intro v753 w32 ho33 hb hg_ hnew_
                   clear hg_ hnew_
                   (first | rw [← Ny752.out] at ho33 | (simp only [Int.reduceToNat] at ho33;rw [← Ny752.out] at ho33))
                   have n0_:=Aside0.mk (Kd.N_elder' (by (with_reducible repeat (first | apply Kd.N_alloc | apply Kd.N_drewN | apply Kd.N_drew));exact HO_4.out) (Kd.R_base ho33) hb)
                   have n1_:=Aside0.mk (Kd.R_elder' (by (with_reducible repeat (first | apply Kd.R_alloc | apply Kd.R_drewN | apply Kd.R_drew));exact HO_5.out) (Kd.R_base ho33) hb)
                   have n2_:=Aside0.mk (Kd.V_elder' (by (with_reducible repeat (first | apply Kd.V_alloc | apply Kd.V_drewN | apply Kd.V_drew));exact HO759.out) (Kd.R_base ho33) hb)
                   have n3_:=Aside0.mk (Kd.V_elder' (by (with_reducible repeat (first | apply Kd.V_alloc | apply Kd.V_drewN | apply Kd.V_drew));exact HO773.out) (Kd.R_base ho33) hb)
                   have n4_:=Aside0.mk (Kd.R_elder' (by (with_reducible repeat (first | apply Kd.R_alloc | apply Kd.R_drewN | apply Kd.R_drew));exact HO765.out) (Kd.R_base ho33) hb)
                   have n5_:=Aside0.mk (Kd.R_lower (Kd.R_new' (Kd.R_new' ho33 (Kd.R_lt (by (with_reducible repeat (first | apply Kd.R_alloc | apply Kd.R_drewN | apply Kd.R_drew));exact HO_5.out))) (Kd.R_lt (by (with_reducible repeat (first | apply Kd.R_alloc | apply Kd.R_drewN | apply Kd.R_drew));exact HO765.out))) (below_size (by repeat (first | (with_reducible first | exact HB.out | apply below_alloc | apply pw_below_drewN | apply below_drew1) | exact HB.out))))
                   have n6_:=Aside0.mk (Kd.C_below (by repeat (first | (with_reducible exact HR749_2.out) | (with_reducible refine Kd.C_alloc ?_ _) | (with_reducible refine Kd.C_drewN ?_ _) | (with_reducible refine Kd.C_drew ?_) | exact HR749_2.out)) hb)
                   have n7_:=Aside0.mk (below_step (by repeat (first | (with_reducible first | exact HB.out | apply below_alloc | apply pw_below_drewN | apply below_drew1) | exact HB.out)) hb)
                   clear HO_4
                   clear HO_5
                   clear HO759
                   clear HO773
                   clear HO765
                   clear HR749_2
                   clear HB
                   have HO_4:=n0_
                   have HO_5:=n1_
                   have HO759:=n2_
                   have HO773:=n3_
                   have HO765:=n4_
                   have HO754:=n5_
                   have HR749_2:=n6_
                   have HB:=n7_
                   clear n0_ n1_ n2_ n3_ n4_ n5_ n6_ n7_
                   clear hb ho33
                   refine hK.out _ _ trivial (fun hHeld=>?_)
                   clear hK K
                   refine norm_ (a':=?_) ?_ ?_
                   rotate_left
                   ·show Act.put _ (some 41) _ = _
                    simp only [Act.put,List.setIfInBounds_toArray,List.set_cons_zero,List.set_cons_succ,i64_w,i32_w]
                    rfl
                   refine one_ (i:=4) (N:=some 45) #[true,true,true,true,true,true,true,false,true,true,true,false,false] rfl rfl (one_of HT_.out (by kernel_rfl)) (by decide) (fun K hK=>?_)
                   refine Kd.R_append_rows_step Kd.string (w0:=w) w.heap.size (by rfl) (.tmp 41) (.tmp 44) 48 9 (.string ⟨#[]⟩) 16 rfl Tryd.underlying48 info9 rfl (by decide) (by omega) v753 y752 y755 _ _ _ (fun k_=>some k_ ≠ (.slice (some ad751) x5_1.length co14:Value).ownBlock∧some k_ ≠ (v764:Value).ownBlock) (fun _=>False) rfl rfl ?aO ?aR (fun _ _ h=>h) (fun _ h=>h.elim) ?aF ?aB ?aS ?aL ?_
                   (case aR=>repeat (first | exact (Kd.V_reads' HO759.out).2.2 | (with_reducible refine Kd.C_alloc ?_ _) | (with_reducible refine Kd.C_drewN ?_ _) | (with_reducible refine Kd.C_drew ?_)))
                   (case aB=>exact (by repeat (first | (with_reducible first | exact HB.out | apply below_alloc | apply pw_below_drewN | apply below_drew1) | exact HB.out)))
                   (case aF=>exact (fun k_ hk=>⟨Kd.fresh' (Kd.R_lt (by (with_reducible repeat (first | apply Kd.R_alloc | apply Kd.R_drewN | apply Kd.R_drew));exact HO_5.out)) k_ hk,Kd.fresh' (Kd.R_lt (by (with_reducible repeat (first | apply Kd.R_alloc | apply Kd.R_drewN | apply Kd.R_drew));exact HO765.out)) k_ hk⟩))
                   (case aO=>exact (by (with_reducible repeat (first | apply Kd.R_alloc | apply Kd.R_drewN | apply Kd.R_drew));exact Kd.R_mono HO754.out (fun _ hk=>⟨hk.1.2,hk.2⟩)))
                   (case aS=>exact (below_size (by repeat (first | (with_reducible first | exact HB.out | apply below_alloc | apply pw_below_drewN | apply below_drew1) | exact HB.out))))
                   (case aL=>have:=LMc22.out;omega)
                   intro v761 w34 ho hb hg hat
                   rw [← Ny760.out] at ho
                   have n0_:=Aside0.mk (Kd.N_afterv (ok:=(fun k_=>some k_ ≠ (.slice (some ad751) x5_1.length co14:Value).ownBlock∧some k_ ≠ (v764:Value).ownBlock)) (by (with_reducible repeat (first | apply Kd.N_alloc | apply Kd.N_drewN | apply Kd.N_drew));exact HO_4.out) hg hat)
                   have n1_:=Aside0.mk (Kd.R_after (ok:=(fun k_=>some k_ ≠ (v764:Value).ownBlock)) (by (with_reducible repeat (first | apply Kd.R_alloc | apply Kd.R_drewN | apply Kd.R_drew));exact Kd.R_mono HO_5.out (fun _ hk=>⟨hk.1.2,hk.2⟩)) hg hat)
                   have n2_:=Aside0.mk (Kd.V_afterv (ok:=(fun k_=>some k_ ≠ (.slice (some ad749) t743.length co12:Value).ownBlock∧some k_ ≠ (v764:Value).ownBlock)) (by (with_reducible repeat (first | apply Kd.V_alloc | apply Kd.V_drewN | apply Kd.V_drew));exact Kd.V_mono HO759.out (fun _ hk=>⟨⟨hk.1.1.2,hk.1.2⟩,hk.2⟩)) hg hat)
                   have n3_:=Aside0.mk (Kd.V_afterv (ok:=(fun k_=>some k_ ≠ (.slice (some ad749) t743.length co12:Value).ownBlock∧some k_ ≠ (v764:Value).ownBlock)) (by (with_reducible repeat (first | apply Kd.V_alloc | apply Kd.V_drewN | apply Kd.V_drew));exact Kd.V_mono HO773.out (fun _ hk=>⟨⟨hk.1.1.2,hk.1.2⟩,hk.2⟩)) hg hat)
                   have n4_:=Aside0.mk (Kd.R_after (ok:=(fun k_=>some k_ ≠ (.slice (some ad751) x5_1.length co14:Value).ownBlock)) (by (with_reducible repeat (first | apply Kd.R_alloc | apply Kd.R_drewN | apply Kd.R_drew));exact Kd.R_mono HO765.out (fun _ hk=>⟨hk.1.2,hk.2⟩)) hg hat)
                   have n5_:=Aside0.mk (hb)
                   have n6_:=Aside0.mk (ho)
                   clear HO_4
                   clear HO_5
                   clear HO759
                   clear HO773
                   clear HO765
                   clear HB
                   clear HO754
                   have HO_4:=n0_
                   have HO_5:=n1_
                   have HO759:=n2_
                   have HO773:=n3_
                   have HO765:=n4_
                   have HB:=n5_
                   have HO762:=n6_
                   clear n0_ n1_ n2_ n3_ n4_ n5_ n6_
                   clear ho hb hg hat
                   refine hK.out _ _ trivial (fun hHeld=>?_)
                   clear hK K
                   refine norm_ (a':=?_) ?_ ?_
                   rotate_left
                   ·show Act.put _ (some 45) _ = _
                    simp only [Act.put,List.setIfInBounds_toArray,List.set_cons_zero,List.set_cons_succ,i64_w,i32_w]
                    rfl
                   exact norm_ (by simp only [putAll,Act.put,List.setIfInBounds_toArray,List.set_cons_zero,List.set_cons_succ]) (hCont (v753,v761,v764) _ ⟨(by (with_reducible repeat (first | apply Kd.V_alloc | apply Kd.V_drewN | apply Kd.V_drew));exact Kd.V_mono HO759.out (fun _ hk=>⟨hk.2,⟨hk.1.2,hk.1.1⟩⟩)),(by (with_reducible repeat (first | apply Kd.R_alloc | apply Kd.R_drewN | apply Kd.R_drew));exact Kd.R_mono HO762.out (fun _ hk=>⟨hk.2,hk.1⟩)),(by (with_reducible repeat (first | apply Kd.R_alloc | apply Kd.R_drewN | apply Kd.R_drew));exact Kd.R_mono HO765.out (fun _ hk=>⟨hk.2,hk.1⟩)),(by (with_reducible repeat (first | apply Kd.V_alloc | apply Kd.V_drewN | apply Kd.V_drew));exact Kd.V_mono HO773.out (fun _ hk=>⟨hk.2,⟨hk.1.2,hk.1.1⟩⟩)),(by (with_reducible repeat (first | apply Kd.N_alloc | apply Kd.N_drewN | apply Kd.N_drew));exact Kd.N_mono HO_4.out (fun _ hk=>⟨hk.2,⟨hk.1.2,hk.1.1⟩⟩)),(by (with_reducible repeat (first | apply Kd.R_alloc | apply Kd.R_drewN | apply Kd.R_drew));exact Kd.R_mono HO_5.out (fun _ hk=>⟨hk.2,hk.1⟩)),(by repeat (first | (with_reducible first | exact HB.out | apply below_alloc | apply pw_below_drewN | apply below_drew1) | exact HB.out))⟩)
                 rintro ⟨v753,v761,v764⟩ w35 ⟨h0_,h1_,h2_,h3_,h4_,h5_,h6_⟩
                 have n0_:Aside0 (Kd.V Kd.string 9 w35 w.heap.size (fun k_=>some k_ ≠ (v761:Value).ownBlock∧some k_ ≠ (v764:Value).ownBlock∧some k_ ≠ (.slice (some ad749) t743.length co12:Value).ownBlock) (.slice (some ad751) y755.length co14) y755):=⟨h0_⟩
                 have n1_:Aside0 (Kd.R Kd.string 9 w35 w.heap.size (fun k_=>some k_ ≠ (v764:Value).ownBlock∧some k_ ≠ (.slice (some ad751) x5_1.length co14:Value).ownBlock) v761 y760):=⟨h1_⟩
                 have n2_:Aside0 (Kd.R Kd.string 9 w35 w.heap.size (fun k_=>some k_ ≠ (v761:Value).ownBlock∧some k_ ≠ (.slice (some ad751) x5_1.length co14:Value).ownBlock) v764 y763):=⟨h2_⟩
                 have n3_:Aside0 (Kd.V Kd.string 9 w35 w.heap.size (fun k_=>some k_ ≠ (v761:Value).ownBlock∧some k_ ≠ (v764:Value).ownBlock∧some k_ ≠ (.slice (some ad749) t743.length co12:Value).ownBlock) (.slice A29 y769.length c29) y769):=⟨h3_⟩
                 have n4_:Aside0 (Kd.N k25 25 w35 w.heap.size (fun k_=>some k_ ≠ (v761:Value).ownBlock∧some k_ ≠ (v764:Value).ownBlock∧some k_ ≠ (.slice (some ad751) x5_1.length co14:Value).ownBlock) (.slice (some ad749) t743.length co12) t743):=⟨h4_⟩
                 have n5_:Aside0 (Kd.R Kd.string 9 w35 w.heap.size (fun k_=>some k_ ≠ (v761:Value).ownBlock∧some k_ ≠ (v764:Value).ownBlock) (.slice (some ad751) x5_1.length co14) x5_1):=⟨h5_⟩
                 have n6_:Aside0 (Below w.heap.size w w35):=⟨h6_⟩
                 clear HO_4
                 clear HO_5
                 clear HR749_2
                 clear HB
                 clear h0_ h1_ h2_ h3_ h4_ h5_ h6_
                 have HO759:=n0_
                 have HO762:=n1_
                 have HO765:=n2_
                 have HO773:=n3_
                 have HO_4:=n4_
                 have HO_5:=n5_
                 have HB:=n6_
                 clear n0_ n1_ n2_ n3_ n4_ n5_ n6_
                 have hHeld:=trivial
                 obtain ⟨Ao37,co37,eo37⟩:=Kd.R_slice HO765.out
                 (first | subst eo37 | (injection eo37 with f1_ f2_ f3_;have f4_:=f1_.symm;have f5_:=f3_.symm;clear f1_ f2_ f3_;subst f4_;subst f5_))
                 refine norm_ (a':=?_) ?_ ?_
                 rotate_left;·simp only [putAll,Act.put,List.setIfInBounds_toArray,List.set_cons_zero,List.set_cons_succ];rfl
                 refine one_ (i:=7) (N:=some 48) #[true,true,true,true,true,true,true,true,true,true,true,false,false] rfl rfl (one_of HT_.out (by kernel_rfl)) (by decide) (fun K hK=>?_)
                 refine Kd.R_append_rows_step Kd.string (w0:=w) w.heap.size (by rfl) (.tmp 45) (.tmp 47) 48 9 (.string ⟨#[]⟩) 16 rfl Tryd.underlying48 info9 rfl (by decide) (by omega) v761 y760 y763 _ _ _ (fun k_=>some k_ ≠ (.slice (some ad751) x5_1.length co14:Value).ownBlock∧some k_ ≠ (.slice Ao37 y763.length co37:Value).ownBlock) (fun _=>False) rfl rfl ?aO ?aR (fun _ _ h=>h) (fun _ h=>h.elim) ?aF ?aB ?aS ?aL ?_
                 (case aR=>repeat (first | exact (Kd.R_reads' HO765.out).2.2 | (with_reducible refine Kd.C_alloc ?_ _) | (with_reducible refine Kd.C_drewN ?_ _) | (with_reducible refine Kd.C_drew ?_)))
                 (case aB=>exact (by repeat (first | (with_reducible first | exact HB.out | apply below_alloc | apply pw_below_drewN | apply below_drew1) | exact HB.out)))
                 (case aF=>exact (fun k_ hk=>⟨Kd.fresh' (Kd.R_lt (by (with_reducible repeat (first | apply Kd.R_alloc | apply Kd.R_drewN | apply Kd.R_drew));exact HO_5.out)) k_ hk,Kd.fresh' (Kd.R_lt (by (with_reducible repeat (first | apply Kd.R_alloc | apply Kd.R_drewN | apply Kd.R_drew));exact HO765.out)) k_ hk⟩))
                 (case aO=>exact (by (with_reducible repeat (first | apply Kd.R_alloc | apply Kd.R_drewN | apply Kd.R_drew));exact Kd.R_mono HO762.out (fun _ hk=>⟨hk.2,hk.1⟩)))
                 (case aS=>exact (below_size (by repeat (first | (with_reducible first | exact HB.out | apply below_alloc | apply pw_below_drewN | apply below_drew1) | exact HB.out))))
                 (case aL=>have:=LMc23.out;omega)
                 intro v767 w36 ho hb hg hat
                 rw [← Ny766.out] at ho
                 have n0_:=Aside0.mk (Kd.N_afterv (ok:=(fun k_=>some k_ ≠ (.slice (some ad751) x5_1.length co14:Value).ownBlock∧some k_ ≠ (.slice Ao37 y763.length co37:Value).ownBlock)) (by (with_reducible repeat (first | apply Kd.N_alloc | apply Kd.N_drewN | apply Kd.N_drew));exact Kd.N_mono HO_4.out (fun _ hk=>⟨⟨hk.2.2,hk.2.1⟩,hk.1⟩)) hg hat)
                 have n1_:=Aside0.mk (Kd.R_after (ok:=(fun k_=>some k_ ≠ (.slice Ao37 y763.length co37:Value).ownBlock)) (by (with_reducible repeat (first | apply Kd.R_alloc | apply Kd.R_drewN | apply Kd.R_drew));exact Kd.R_mono HO_5.out (fun _ hk=>⟨hk.2,hk.1⟩)) hg hat)
                 have n2_:=Aside0.mk (Kd.V_afterv (ok:=(fun k_=>some k_ ≠ (.slice (some ad749) t743.length co12:Value).ownBlock∧some k_ ≠ (.slice Ao37 y763.length co37:Value).ownBlock)) (by (with_reducible repeat (first | apply Kd.V_alloc | apply Kd.V_drewN | apply Kd.V_drew));exact Kd.V_mono HO759.out (fun _ hk=>⟨⟨hk.2.2,hk.2.1⟩,hk.1⟩)) hg hat)
                 have n3_:=Aside0.mk (Kd.V_afterv (ok:=(fun k_=>some k_ ≠ (.slice (some ad749) t743.length co12:Value).ownBlock∧some k_ ≠ (.slice Ao37 y763.length co37:Value).ownBlock)) (by (with_reducible repeat (first | apply Kd.V_alloc | apply Kd.V_drewN | apply Kd.V_drew));exact Kd.V_mono HO773.out (fun _ hk=>⟨⟨hk.2.2,hk.2.1⟩,hk.1⟩)) hg hat)
                 have n4_:=Aside0.mk (Kd.R_after (ok:=(fun k_=>some k_ ≠ (.slice (some ad751) x5_1.length co14:Value).ownBlock)) (by (with_reducible repeat (first | apply Kd.R_alloc | apply Kd.R_drewN | apply Kd.R_drew));exact Kd.R_mono HO765.out (fun _ hk=>⟨hk.2,hk.1⟩)) hg hat)
                 have n5_:=Aside0.mk (hb)
                 have n6_:=Aside0.mk (ho)
                 clear HO_4
                 clear HO_5
                 clear HO759
                 clear HO773
                 clear HO765
                 clear HB
                 clear HO762
                 have HO_4:=n0_
                 have HO_5:=n1_
                 have HO759:=n2_
                 have HO773:=n3_
                 have HO765:=n4_
                 have HB:=n5_
                 have HO768:=n6_
                 clear n0_ n1_ n2_ n3_ n4_ n5_ n6_
                 clear ho hb hg hat
                 refine hK.out _ _ trivial (fun hHeld=>?_)
                 clear hK K
                 refine norm_ (a':=?_) ?_ ?_
                 rotate_left
                 ·show Act.put _ (some 48) _ = _
                  simp only [Act.put,List.setIfInBounds_toArray,List.set_cons_zero,List.set_cons_succ,i64_w,i32_w]
                  rfl
                 refine one_ (i:=11) (N:=some 52) #[true,true,true,true,true,true,true,true,true,true,true,true,false] rfl rfl (one_of HT_.out (by kernel_rfl)) (by decide) (fun K hK=>?_)
                 refine Kd.R_append_rows_step Kd.string (w0:=w) w.heap.size (by rfl) (.tmp 48) (.tmp 51) 48 9 (.string ⟨#[]⟩) 16 rfl Tryd.underlying48 info9 rfl (by decide) (by omega) v767 y766 y769 _ _ _ (fun k_=>some k_ ≠ (.slice (some ad751) x5_1.length co14:Value).ownBlock∧some k_ ≠ (.slice Ao37 y763.length co37:Value).ownBlock) (fun _=>False) rfl rfl ?aO ?aR (fun _ _ h=>h) (fun _ h=>h.elim) ?aF ?aB ?aS ?aL ?_
                 (case aR=>repeat (first | exact (Kd.V_reads' HO773.out).2.2 | (with_reducible refine Kd.C_alloc ?_ _) | (with_reducible refine Kd.C_drewN ?_ _) | (with_reducible refine Kd.C_drew ?_)))
                 (case aB=>exact (by repeat (first | (with_reducible first | exact HB.out | apply below_alloc | apply pw_below_drewN | apply below_drew1) | exact HB.out)))
                 (case aF=>exact (fun k_ hk=>⟨Kd.fresh' (Kd.R_lt (by (with_reducible repeat (first | apply Kd.R_alloc | apply Kd.R_drewN | apply Kd.R_drew));exact HO_5.out)) k_ hk,Kd.fresh' (Kd.R_lt (by (with_reducible repeat (first | apply Kd.R_alloc | apply Kd.R_drewN | apply Kd.R_drew));exact HO765.out)) k_ hk⟩))
                 (case aO=>exact (by (with_reducible repeat (first | apply Kd.R_alloc | apply Kd.R_drewN | apply Kd.R_drew));exact HO768.out))
                 (case aS=>exact (below_size (by repeat (first | (with_reducible first | exact HB.out | apply below_alloc | apply pw_below_drewN | apply below_drew1) | exact HB.out))))
                 (case aL=>have:=LMc26.out;omega)
                 intro v775 w38 ho hb hg hat
                 rw [← Ny774.out] at ho
                 have n0_:=Aside0.mk (Kd.N_afterv (ok:=(fun k_=>some k_ ≠ (.slice (some ad751) x5_1.length co14:Value).ownBlock∧some k_ ≠ (.slice Ao37 y763.length co37:Value).ownBlock)) (by (with_reducible repeat (first | apply Kd.N_alloc | apply Kd.N_drewN | apply Kd.N_drew));exact HO_4.out) hg hat)
                 have n1_:=Aside0.mk (Kd.R_after (ok:=(fun k_=>some k_ ≠ (.slice Ao37 y763.length co37:Value).ownBlock)) (by (with_reducible repeat (first | apply Kd.R_alloc | apply Kd.R_drewN | apply Kd.R_drew));exact HO_5.out) hg hat)
                 have n2_:=Aside0.mk (Kd.V_afterv (ok:=(fun k_=>some k_ ≠ (.slice (some ad749) t743.length co12:Value).ownBlock∧some k_ ≠ (.slice Ao37 y763.length co37:Value).ownBlock)) (by (with_reducible repeat (first | apply Kd.V_alloc | apply Kd.V_drewN | apply Kd.V_drew));exact HO759.out) hg hat)
                 have n3_:=Aside0.mk (Kd.V_afterv (ok:=(fun k_=>some k_ ≠ (.slice (some ad749) t743.length co12:Value).ownBlock∧some k_ ≠ (.slice Ao37 y763.length co37:Value).ownBlock)) (by (with_reducible repeat (first | apply Kd.V_alloc | apply Kd.V_drewN | apply Kd.V_drew));exact HO773.out) hg hat)
                 have n4_:=Aside0.mk (Kd.R_after (ok:=(fun k_=>some k_ ≠ (.slice (some ad751) x5_1.length co14:Value).ownBlock)) (by (with_reducible repeat (first | apply Kd.R_alloc | apply Kd.R_drewN | apply Kd.R_drew));exact HO765.out) hg hat)
                 have n5_:=Aside0.mk (hb)
                 have n6_:=Aside0.mk (ho)
                 clear HO_4
                 clear HO_5
                 clear HO759
                 clear HO773
                 clear HO765
                 clear HB
                 clear HO768
                 have HO_4:=n0_
                 have HO_5:=n1_
                 have HO759:=n2_
                 have HO773:=n3_
                 have HO765:=n4_
                 have HB:=n5_
                 have HO776:=n6_
                 clear n0_ n1_ n2_ n3_ n4_ n5_ n6_
                 clear ho hb hg hat
                 refine hK.out _ _ trivial (fun hHeld=>?_)
                 clear hK K
                 refine norm_ (a':=?_) ?_ ?_
                 rotate_left
                 ·show Act.put _ (some 52) _ = _
                  simp only [Act.put,List.setIfInBounds_toArray,List.set_cons_zero,List.set_cons_succ,i64_w,i32_w]
                  rfl
                 refine pure_ (i:=12) (N:=some 5) (v:=?_) (a':=?_) #[true,true,true,true,true,true,true,true,true,true,true,true,true] rfl rfl (any_of HT_.out (by kernel_rfl)) (fun _ _ _ h=>h) (Or.inl ⟨by rfl,?_⟩) ?_ ?_
                 rotate_left;·intro w';go_simp;with_reducible rfl
                 rotate_left;·simp only [Act.put,List.setIfInBounds_toArray,List.set_cons_zero,List.set_cons_succ,i64_w,i32_w];rfl
                 refine done_ (done_of HT_.out (by kernel_rfl)) ?_
                 try go_wp2
                 go_roundg k2
                 case measure=>have:=HK1.out;have:=HK2.out;omega
                 case rel=>exact ⟨(y774),(wrap64 (x6_1 + 1)),(by first | rfl | (simp;done) | (simp [*];done)),H',⟨by have:=HK1.out;have:=HK2.out;omega⟩,⟨by (with_reducible repeat (first | apply Kd.N_alloc | apply Kd.N_drewN | apply Kd.N_drew));exact Kd.N_mono HO_4.out (fun _ hk=>hk.2)⟩,⟨by (with_reducible repeat (first | apply Kd.R_alloc | apply Kd.R_drewN | apply Kd.R_drew));exact Kd.R_mono HO776.out (fun _ hk=>trivial)⟩,⟨by repeat (first | (with_reducible first | exact HB.out | apply below_alloc | apply pw_below_drewN | apply below_drew1) | exact HB.out)⟩⟩
                ·rw [if_neg c26] at H
                 exact absurd H (by simp)
               ·rw [if_neg c23] at H
                exact absurd H (by simp)
              ·rw [if_neg c22] at H
               exact absurd H (by simp)
             ·rw [if_neg c21] at H
              exact absurd H (by simp)
            ·rw [if_neg c20] at H
             exact absurd H (by simp)
          ·rw [if_neg c18] at H
           exact absurd H (by simp)
         ·rw [if_neg c17] at H
          exact absurd H (by simp)
        ·rw [if_neg c15] at H
         have c15b0:decide (0 < x8_2) = false:=decide_eq_false c15
         clear c15
         obtain ⟨y777,hy777⟩:∃ y_:List ByteArray,y_ = (([]:List ByteArray)):=⟨_,rfl⟩
         replace H:(if 0 ≤ x8_2 then (if x8_2 ≤ (x5_1.length:Int) then ((some (x5_1.take (x8_2:Int).toNat:List ByteArray)).bind fun y780=>(if y777.length + y780.length < 8796093022208 then ((some (y777 ++ y780:List ByteArray)).bind fun y785=>((some (([t750]:List ByteArray):List ByteArray)).bind fun y788=>(if y785.length + y788.length < 8796093022208 then ((some (y785 ++ y788:List ByteArray)).bind fun y791=>((some (x5_1.drop (x8_2:Int).toNat:List ByteArray)).bind fun y794=>(if y791.length + y794.length < 8796093022208 then (spec_SealKnown.l0 k2 t743 (y791 ++ y794) (wrap64 (x6_1 + 1))) else (none)))) else (none)))) else (none))) else (none)) else (none)) = some (r1,r2):=by first | (rw [hy777];with_reducible exact H) | (have H2_:=(Option.bind_some _ _).symm.trans H;rw [hy777];with_reducible exact H2_) | (have H2_:=(Option.bind_some _ _).symm.trans H;with_reducible exact H2_) | with_reducible exact H | (rw [hy777];exact H) | exact H
         have Ny777:=Aside0.mk hy777
         clear hy777
         by_cases c39:0 ≤ x8_2
         ·rw [if_pos c39] at H
          have c39b0:=eq_true c39
          have c39b1:decide (0 ≤ x8_2) = true:=decide_eq_true c39
          clear c39
          by_cases c40:x8_2 ≤ (x5_1.length:Int)
          ·rw [if_pos c40] at H
           have c40b0:=eq_true c40
           have c40b1:decide (x8_2 ≤ (x5_1.length:Int)) = true:=decide_eq_true c40
           clear c40
           obtain ⟨y780,hy780⟩:∃ y_:List ByteArray,y_ = (x5_1.take (x8_2:Int).toNat):=⟨_,rfl⟩
           replace H:(if y777.length + y780.length < 8796093022208 then ((some (y777 ++ y780:List ByteArray)).bind fun y785=>((some (([t750]:List ByteArray):List ByteArray)).bind fun y788=>(if y785.length + y788.length < 8796093022208 then ((some (y785 ++ y788:List ByteArray)).bind fun y791=>((some (x5_1.drop (x8_2:Int).toNat:List ByteArray)).bind fun y794=>(if y791.length + y794.length < 8796093022208 then (spec_SealKnown.l0 k2 t743 (y791 ++ y794) (wrap64 (x6_1 + 1))) else (none)))) else (none)))) else (none)) = some (r1,r2):=by first | (rw [hy780];with_reducible exact H) | (have H2_:=(Option.bind_some _ _).symm.trans H;rw [hy780];with_reducible exact H2_) | (have H2_:=(Option.bind_some _ _).symm.trans H;with_reducible exact H2_) | with_reducible exact H | (rw [hy780];exact H) | exact H
           have Ny780:=Aside0.mk hy780
           clear hy780
           by_cases c41:y777.length + y780.length < 8796093022208
           ·rw [if_pos c41] at H
            have LMc41:=Aside0.mk c41
            clear c41
            obtain ⟨y785,hy785⟩:∃ y_:List ByteArray,y_ = (y777 ++ y780):=⟨_,rfl⟩
            replace H:((some (([t750]:List ByteArray):List ByteArray)).bind fun y788=>(if y785.length + y788.length < 8796093022208 then ((some (y785 ++ y788:List ByteArray)).bind fun y791=>((some (x5_1.drop (x8_2:Int).toNat:List ByteArray)).bind fun y794=>(if y791.length + y794.length < 8796093022208 then (spec_SealKnown.l0 k2 t743 (y791 ++ y794) (wrap64 (x6_1 + 1))) else (none)))) else (none))) = some (r1,r2):=by first | (rw [hy785];with_reducible exact H) | (have H2_:=(Option.bind_some _ _).symm.trans H;rw [hy785];with_reducible exact H2_) | (have H2_:=(Option.bind_some _ _).symm.trans H;with_reducible exact H2_) | with_reducible exact H | (rw [hy785];exact H) | exact H
            have Ny785:=Aside0.mk hy785
            clear hy785
            obtain ⟨y788,hy788⟩:∃ y_:List ByteArray,y_ = (([t750]:List ByteArray)):=⟨_,rfl⟩
            replace H:(if y785.length + y788.length < 8796093022208 then ((some (y785 ++ y788:List ByteArray)).bind fun y791=>((some (x5_1.drop (x8_2:Int).toNat:List ByteArray)).bind fun y794=>(if y791.length + y794.length < 8796093022208 then (spec_SealKnown.l0 k2 t743 (y791 ++ y794) (wrap64 (x6_1 + 1))) else (none)))) else (none)) = some (r1,r2):=by first | (rw [hy788];with_reducible exact H) | (have H2_:=(Option.bind_some _ _).symm.trans H;rw [hy788];with_reducible exact H2_) | (have H2_:=(Option.bind_some _ _).symm.trans H;with_reducible exact H2_) | with_reducible exact H | (rw [hy788];exact H) | exact H
            have Ny788:=Aside0.mk hy788
            clear hy788
            by_cases c42:y785.length + y788.length < 8796093022208
            ·rw [if_pos c42] at H
             have LMc42:=Aside0.mk c42
             clear c42
             obtain ⟨y791,hy791⟩:∃ y_:List ByteArray,y_ = (y785 ++ y788):=⟨_,rfl⟩
             replace H:((some (x5_1.drop (x8_2:Int).toNat:List ByteArray)).bind fun y794=>(if y791.length + y794.length < 8796093022208 then (spec_SealKnown.l0 k2 t743 (y791 ++ y794) (wrap64 (x6_1 + 1))) else (none))) = some (r1,r2):=by first | (rw [hy791];with_reducible exact H) | (have H2_:=(Option.bind_some _ _).symm.trans H;rw [hy791];with_reducible exact H2_) | (have H2_:=(Option.bind_some _ _).symm.trans H;with_reducible exact H2_) | with_reducible exact H | (rw [hy791];exact H) | exact H
             have Ny791:=Aside0.mk hy791
             clear hy791
             have c43b0:=eq_true (of_decide_eq_true (by first | (with_reducible assumption) | assumption):0 ≤ x8_2)
             have c44b0:=eq_true (of_decide_eq_true (by first | (with_reducible assumption) | assumption):x8_2 ≤ (x5_1.length:Int))
             obtain ⟨y794,hy794⟩:∃ y_:List ByteArray,y_ = (x5_1.drop (x8_2:Int).toNat):=⟨_,rfl⟩
             replace H:(if y791.length + y794.length < 8796093022208 then (spec_SealKnown.l0 k2 t743 (y791 ++ y794) (wrap64 (x6_1 + 1))) else (none)) = some (r1,r2):=by first | (rw [hy794];with_reducible exact H) | (have H2_:=(Option.bind_some _ _).symm.trans H;rw [hy794];with_reducible exact H2_) | (have H2_:=(Option.bind_some _ _).symm.trans H;with_reducible exact H2_) | with_reducible exact H | (rw [hy794];exact H) | exact H
             have Ny794:=Aside0.mk hy794
             clear hy794
             by_cases c45:y791.length + y794.length < 8796093022208
             ·rw [if_pos c45] at H
              have LMc45:=Aside0.mk c45
              clear c45
              obtain ⟨y799,hy799⟩:∃ y_:List ByteArray,y_ = (y791 ++ y794):=⟨_,rfl⟩
              replace H:(spec_SealKnown.l0 k2 t743 y799 (wrap64 (x6_1 + 1))) = some (r1,r2):=by first | (rw [hy799];with_reducible exact H) | (have H2_:=(Option.bind_some _ _).symm.trans H;rw [hy799];with_reducible exact H2_) | (have H2_:=(Option.bind_some _ _).symm.trans H;with_reducible exact H2_) | with_reducible exact H | (rw [hy799];exact H) | exact H
              have Ny799:=Aside0.mk hy799
              clear hy799
              have H':=Aside0.mk H
              clear H
              try go_wp2
              have n0_:=Aside0.mk (Kd.N_drew HO_4.out)
              have n1_:=Aside0.mk (Kd.R_drew HO_5.out)
              have n2_:=Aside0.mk (Kd.C_drew HR749_2.out)
              have n3_:=Aside0.mk (below_drew1 HB.out)
              clear HO_4
              clear HO_5
              clear HR749_2
              clear HB
              have HO_4:=n0_
              have HO_5:=n1_
              have HR749_2:=n2_
              have HB:=n3_
              clear n0_ n1_ n2_ n3_
              have q47:(x8_2:Int) ≤ ((x5_1.length:Int):Int):=of_decide_eq_true (by first | (with_reducible assumption) | assumption)
              obtain ⟨i047,hi047,_,hsz47,_⟩:=info_parts info9
              have hroom47:x5_1.length ≤ co14:=(Kd.R_reads' HO_5.out).2.1
              have hC47:Kd.F Kd.string _ _ Ao14 x5_1.length x5_1:=(Kd.V_at (base:=w.heap.size) (Kd.R_V (Kd.R_apart' (HO_5.out) (Kd.N_typed HO_4.out) (by decide)))).2.2
              have hcut47:=cut_to (P:=Tryd.prog) 48 9 .i64 Tryd.underlying48 hi047 Ao14 x5_1.length co14 x8_2 (of_decide_eq_true (by first | (with_reducible assumption) | assumption)) q47 hroom47
              have hr47:=Kd.F_take (m:=(x8_2:Int).toNat) hC47 (by omega)
              have hy47:y780.length = (x8_2:Int).toNat:=(by rw [Ny780.out,List.length_take];omega)
              rw [← Ny780.out] at hr47
              rw [← hy47] at hcut47
              have HO784:=Aside0.mk (show Kd.V Kd.string 9 _ w.heap.size _ (.slice Ao14 y780.length co14) y780 from Kd.V_mk (by omega) hr47)
              have HC784:=Aside0.mk (show y780.length ≤ co14 from by omega)
              clear hr47 hC47 hroom47 hi047 hsz47
              have KY47:=Aside0.mk hy47
              clear hy47
              replace q47:=eq_true q47
              have q48:(x8_2:Int) ≤ ((x5_1.length:Int):Int):=of_decide_eq_true (by first | (with_reducible assumption) | assumption)
              obtain ⟨i048,hi048,_,hsz48,_⟩:=info_parts info9
              have hroom48:x5_1.length ≤ co14:=(Kd.R_reads' HO_5.out).2.1
              have hC48:Kd.F Kd.string _ _ Ao14 x5_1.length x5_1:=(Kd.V_at (base:=w.heap.size) (Kd.R_V (Kd.R_apart' (HO_5.out) (Kd.N_typed HO_4.out) (by decide)))).2.2
              have q048:(0:Int) ≤ (x8_2:Int):=of_decide_eq_true (by first | (with_reducible assumption) | assumption)
              have hcut48:=cut_from (P:=Tryd.prog) 48 9 .i64 Tryd.underlying48 hi048 1 hsz48 Ao14 x5_1.length co14 x8_2 q048 q48
              have hr48:=Kd.F_cut (m:=(x8_2:Int).toNat) (c:=co14) hC48 (by omega) hroom48
              obtain ⟨A48,hA48⟩:∃ A1,A1 = (if co14 = (x8_2:Int).toNat then Ao14 else (Ao14:Option Addr).map (·.add ((x8_2:Int).toNat * 1))):=⟨_,rfl⟩
              obtain ⟨c48,hc48⟩:∃ c1,c1 = co14 - (x8_2:Int).toNat:=⟨_,rfl⟩
              have hy48:y794.length = x5_1.length - (x8_2:Int).toNat:=(by rw [Ny794.out,List.length_drop] <;> omega)
              rw [show (x5_1).drop (x8_2:Int).toNat = y794 from Ny794.out.symm] at hr48
              replace hr48:Kd.F Kd.string _ _ A48 y794.length y794:=(by rw [hA48];exact hr48)
              rw [← hy48,← hA48,← hc48] at hcut48
              have HO798:=Aside0.mk (show Kd.V Kd.string 9 _ w.heap.size _ (.slice A48 y794.length c48) y794 from Kd.V_mk (by rw [hy48,hc48];exact Nat.sub_le_sub_right hroom48 _) hr48)
              have HC798:=Aside0.mk (show y794.length ≤ c48 from by rw [hy48,hc48];exact Nat.sub_le_sub_right hroom48 _)
              clear hr48 hC48 hroom48 hi048 hsz48 hc48
              have KY48:=Aside0.mk hy48
              have KA48:=Aside0.mk hA48
              clear hy48 hA48
              replace q48:=eq_true q48
              refine start_ (n:=13) (S:=fun w'=>True) (ds:=[]) #[false,false,false,false,false,false,false,false,false,false,false,false,false] (by kernel_rfl) rfl rfl trivial (fun hHeld=>?_);refine with_tabW spec_SealKnown.tab12 spec_SealKnown.bits12 (fun HT_ HW_=>?_)
              generalize wr.drew = w46 at HO_4 HO_5 HR749_2 HB HO784 HO798 hHeld ⊢
              refine pure_ (i:=1) (N:=some 42) (v:=?_) (a':=?_) #[false,true,false,false,false,false,false,false,false,false,false,false,false] rfl rfl (any_of HT_.out (by kernel_rfl)) (fun _ _ _ h=>h) (Or.inl ⟨by rfl,?_⟩) ?_ ?_
              rotate_left;·intro w';go_simp;with_reducible rfl
              rotate_left;·simp only [Act.put,List.setIfInBounds_toArray,List.set_cons_zero,List.set_cons_succ,i64_w,i32_w];rfl
              refine pure_ (i:=2) (N:=some 43) (v:=?_) (a':=?_) #[false,true,true,false,false,false,false,false,false,false,false,false,false] rfl rfl (any_of HT_.out (by kernel_rfl)) (fun _ _ _ h=>h) (Or.inl ⟨by rfl,?_⟩) ?_ ?_
              rotate_left;·intro w';go_simp;with_reducible rfl
              rotate_left;·simp only [Act.put,List.setIfInBounds_toArray,List.set_cons_zero,List.set_cons_succ,i64_w,i32_w];rfl
              refine pure_ (i:=3) (N:=some 44) (v:=?_) (a':=?_) #[false,true,true,true,false,false,false,false,false,false,false,false,false] rfl rfl (any_of HT_.out (by kernel_rfl)) (fun _ _ _ h=>h) (Or.inl ⟨by rfl,?_⟩) ?_ ?_
              rotate_left;·intro w';go_simp;with_reducible rfl
              rotate_left;·simp only [Act.put,List.setIfInBounds_toArray,List.set_cons_zero,List.set_cons_succ,i64_w,i32_w];rfl
              refine pure_ (i:=5) (N:=some 46) (v:=?_) (a':=?_) #[false,true,true,true,false,true,false,false,false,false,false,false,false] rfl rfl (any_of HT_.out (by kernel_rfl)) (fun _ _ _ h=>h) (Or.inl ⟨by rfl,?_⟩) ?_ ?_
              rotate_left;·intro w';go_simp;with_reducible rfl
              rotate_left;·simp only [Act.put,List.setIfInBounds_toArray,List.set_cons_zero,List.set_cons_succ,i64_w,i32_w];rfl
              refine pure_ (i:=8) (N:=some 49) (v:=?_) (a':=?_) #[false,true,true,true,false,true,false,false,true,false,false,false,false] rfl rfl (any_of HT_.out (by kernel_rfl)) (fun _ _ _ h=>h) (Or.inl ⟨by rfl,?_⟩) ?_ ?_
              rotate_left;·intro w';go_simp;with_reducible rfl
              rotate_left;·simp only [Act.put,List.setIfInBounds_toArray,List.set_cons_zero,List.set_cons_succ,i64_w,i32_w];rfl
              refine pure_ (i:=9) (N:=some 50) (v:=?_) (a':=?_) #[false,true,true,true,false,true,false,false,true,true,false,false,false] rfl rfl (any_of HT_.out (by kernel_rfl)) (fun _ _ _ h=>h) (Or.inl ⟨by rfl,?_⟩) ?_ ?_
              rotate_left;·intro w';go_simp;with_reducible rfl
              rotate_left;·simp only [Act.put,List.setIfInBounds_toArray,List.set_cons_zero,List.set_cons_succ,i64_w,i32_w];rfl
              refine pure_ (i:=10) (N:=some 51) (v:=?_) (a':=?_) #[false,true,true,true,false,true,false,false,true,true,true,false,false] rfl rfl (any_of HT_.out (by kernel_rfl)) (fun _ _ _ h=>h) (Or.inl ⟨by rfl,?_⟩) ?_ ?_
              rotate_left;·intro w';go_simp;with_reducible rfl
              rotate_left;·simp only [Act.put,List.setIfInBounds_toArray,List.set_cons_zero,List.set_cons_succ,i64_w,i32_w];rfl
              refine join_ (σ:=Value × Value × Value) 3 #[true,true,true,true,true,true,true,false,true,true,true,false,false] (fun s_=>[(41,s_.1),(45,s_.2.1),(47,s_.2.2)]) (fun s_ w'=>(Kd.V Kd.string 9 w' w.heap.size (fun k_=>some k_ ≠ (s_.2.1:Value).ownBlock∧some k_ ≠ (s_.2.2:Value).ownBlock∧some k_ ≠ (.slice (some ad749) t743.length co12:Value).ownBlock) (.slice Ao14 y780.length co14) y780)∧(Kd.R Kd.string 9 w' w.heap.size (fun k_=>some k_ ≠ (s_.2.2:Value).ownBlock∧some k_ ≠ (.slice Ao14 x5_1.length co14:Value).ownBlock) s_.2.1 y785)∧(Kd.R Kd.string 9 w' w.heap.size (fun k_=>some k_ ≠ (s_.2.1:Value).ownBlock∧some k_ ≠ (.slice Ao14 x5_1.length co14:Value).ownBlock) s_.2.2 y788)∧(Kd.V Kd.string 9 w' w.heap.size (fun k_=>some k_ ≠ (s_.2.1:Value).ownBlock∧some k_ ≠ (s_.2.2:Value).ownBlock∧some k_ ≠ (.slice (some ad749) t743.length co12:Value).ownBlock) (.slice A48 y794.length c48) y794)∧(Kd.N k25 25 w' w.heap.size (fun k_=>some k_ ≠ (s_.2.1:Value).ownBlock∧some k_ ≠ (s_.2.2:Value).ownBlock∧some k_ ≠ (.slice Ao14 x5_1.length co14:Value).ownBlock) (.slice (some ad749) t743.length co12) t743)∧(Kd.R Kd.string 9 w' w.heap.size (fun k_=>some k_ ≠ (s_.2.1:Value).ownBlock∧some k_ ≠ (s_.2.2:Value).ownBlock) (.slice Ao14 x5_1.length co14) x5_1)∧(Below w.heap.size w w')) ?_ ?_
              rotate_left
              ·intro hCont
               refine two_ (i:=0) (j:=6) (Ni:=some 41) (Nj:=some 47) #[true,true,true,true,false,true,false,false,true,true,true,false,false] #[false,true,true,true,false,true,true,false,true,true,true,false,false] rfl rfl rfl rfl (two_of HT_.out (by kernel_rfl)) (by decide) (by decide) (fun K hK=>?_) (fun K hK=>?_)
               ·skip
                refine Kd.R_lit_step Kd.string _ 9 ?hg (N:=41) ?hd (xs:=([]:List ByteArray)) (inner:=[]) (ok:=fun _=>True) (okp:=fun _=>True) ?hr ?hp (fun _ hk=>hk) trivial (Below.refl _ _) (Nat.le_refl _) (by simp) ?_;(case hd=>rfl);(case hg=>rfl);(case hr=>first | (go_simp;done) | (go_simp;rfl));(case hp=>exact (Reps.none _ _))
                intro v778 w49 ho50 hb hg_ hnew_
                clear hg_ hnew_
                (first | rw [← Ny777.out] at ho50 | (simp only [Int.reduceToNat] at ho50;rw [← Ny777.out] at ho50))
                have n0_:=Aside0.mk (Kd.N_elder' (by (with_reducible repeat (first | apply Kd.N_alloc | apply Kd.N_drewN | apply Kd.N_drew));exact HO_4.out) (Kd.R_base ho50) hb)
                have n1_:=Aside0.mk (Kd.R_elder' (by (with_reducible repeat (first | apply Kd.R_alloc | apply Kd.R_drewN | apply Kd.R_drew));exact HO_5.out) (Kd.R_base ho50) hb)
                have n2_:=Aside0.mk (Kd.V_elder' (by (with_reducible repeat (first | apply Kd.V_alloc | apply Kd.V_drewN | apply Kd.V_drew));exact HO784.out) (Kd.R_base ho50) hb)
                have n3_:=Aside0.mk (Kd.V_elder' (by (with_reducible repeat (first | apply Kd.V_alloc | apply Kd.V_drewN | apply Kd.V_drew));exact HO798.out) (Kd.R_base ho50) hb)
                have n4_:=Aside0.mk (Kd.R_lower (Kd.R_new' ho50 (Kd.R_lt (by (with_reducible repeat (first | apply Kd.R_alloc | apply Kd.R_drewN | apply Kd.R_drew));exact HO_5.out))) (below_size (by repeat (first | (with_reducible first | exact HB.out | apply below_alloc | apply pw_below_drewN | apply below_drew1) | exact HB.out))))
                have n5_:=Aside0.mk (Kd.C_below (by repeat (first | (with_reducible exact HR749_2.out) | (with_reducible refine Kd.C_alloc ?_ _) | (with_reducible refine Kd.C_drewN ?_ _) | (with_reducible refine Kd.C_drew ?_) | exact HR749_2.out)) hb)
                have n6_:=Aside0.mk (below_step (by repeat (first | (with_reducible first | exact HB.out | apply below_alloc | apply pw_below_drewN | apply below_drew1) | exact HB.out)) hb)
                clear HO_4
                clear HO_5
                clear HO784
                clear HO798
                clear HR749_2
                clear HB
                have HO_4:=n0_
                have HO_5:=n1_
                have HO784:=n2_
                have HO798:=n3_
                have HO779:=n4_
                have HR749_2:=n5_
                have HB:=n6_
                clear n0_ n1_ n2_ n3_ n4_ n5_ n6_
                clear hb ho50
                refine hK.out _ _ trivial (fun hHeld=>?_)
                clear hK K
                refine norm_ (a':=?_) ?_ ?_
                rotate_left
                ·show Act.put _ (some 41) _ = _
                 simp only [Act.put,List.setIfInBounds_toArray,List.set_cons_zero,List.set_cons_succ,i64_w,i32_w]
                 rfl
                refine two_ (i:=4) (j:=6) (Ni:=some 45) (Nj:=some 47) #[true,true,true,true,true,true,false,false,true,true,true,false,false] #[true,true,true,true,false,true,true,false,true,true,true,false,false] rfl rfl rfl rfl (two_of HT_.out (by kernel_rfl)) (by decide) (by decide) (fun K hK=>?_) (fun K hK=>?_)
                ·skip
                 refine Kd.R_append_rows_step Kd.string (w0:=w) w.heap.size (by rfl) (.tmp 41) (.tmp 44) 48 9 (.string ⟨#[]⟩) 16 rfl Tryd.underlying48 info9 rfl (by decide) (by omega) v778 y777 y780 _ _ _ (fun k_=>some k_ ≠ (.slice Ao14 x5_1.length co14:Value).ownBlock) (fun _=>False) rfl rfl ?aO ?aR (fun _ _ h=>h) (fun _ h=>h.elim) ?aF ?aB ?aS ?aL ?_
                 (case aR=>repeat (first | exact (Kd.V_reads' HO784.out).2.2 | (with_reducible refine Kd.C_alloc ?_ _) | (with_reducible refine Kd.C_drewN ?_ _) | (with_reducible refine Kd.C_drew ?_)))
                 (case aB=>exact (by repeat (first | (with_reducible first | exact HB.out | apply below_alloc | apply pw_below_drewN | apply below_drew1) | exact HB.out)))
                 (case aF=>exact (fun k_ hk=>Kd.fresh' (Kd.R_lt (by (with_reducible repeat (first | apply Kd.R_alloc | apply Kd.R_drewN | apply Kd.R_drew));exact HO_5.out)) k_ hk))
                 (case aO=>exact (by (with_reducible repeat (first | apply Kd.R_alloc | apply Kd.R_drewN | apply Kd.R_drew));exact Kd.R_mono HO779.out (fun _ hk=>hk.2)))
                 (case aS=>exact (below_size (by repeat (first | (with_reducible first | exact HB.out | apply below_alloc | apply pw_below_drewN | apply below_drew1) | exact HB.out))))
                 (case aL=>have:=LMc41.out;omega)
                 intro v786 w51 ho hb hg hat
                 rw [← Ny785.out] at ho
                 have n0_:=Aside0.mk (Kd.N_afterv (ok:=(fun k_=>some k_ ≠ (.slice Ao14 x5_1.length co14:Value).ownBlock)) (by (with_reducible repeat (first | apply Kd.N_alloc | apply Kd.N_drewN | apply Kd.N_drew));exact HO_4.out) hg hat)
                 have n1_:=Aside0.mk (Kd.R_after (ok:=(fun _=>True)) (by (with_reducible repeat (first | apply Kd.R_alloc | apply Kd.R_drewN | apply Kd.R_drew));exact HO_5.out) hg hat)
                 have n2_:=Aside0.mk (Kd.V_afterv (ok:=(fun k_=>some k_ ≠ (.slice (some ad749) t743.length co12:Value).ownBlock)) (by (with_reducible repeat (first | apply Kd.V_alloc | apply Kd.V_drewN | apply Kd.V_drew));exact Kd.V_mono HO784.out (fun _ hk=>⟨hk.1.2,hk.2⟩)) hg hat)
                 have n3_:=Aside0.mk (Kd.V_afterv (ok:=(fun k_=>some k_ ≠ (.slice (some ad749) t743.length co12:Value).ownBlock)) (by (with_reducible repeat (first | apply Kd.V_alloc | apply Kd.V_drewN | apply Kd.V_drew));exact Kd.V_mono HO798.out (fun _ hk=>⟨hk.1.2,hk.2⟩)) hg hat)
                 have n4_:=Aside0.mk (hb)
                 have n5_:=Aside0.mk (ho)
                 clear HO_4
                 clear HO_5
                 clear HO784
                 clear HO798
                 clear HB
                 clear HO779
                 have HO_4:=n0_
                 have HO_5:=n1_
                 have HO784:=n2_
                 have HO798:=n3_
                 have HB:=n4_
                 have HO787:=n5_
                 clear n0_ n1_ n2_ n3_ n4_ n5_
                 clear ho hb hg hat
                 refine hK.out _ _ trivial (fun hHeld=>?_)
                 clear hK K
                 refine norm_ (a':=?_) ?_ ?_
                 rotate_left
                 ·show Act.put _ (some 45) _ = _
                  simp only [Act.put,List.setIfInBounds_toArray,List.set_cons_zero,List.set_cons_succ,i64_w,i32_w]
                  rfl
                 refine one_ (i:=6) (N:=some 47) #[true,true,true,true,true,true,true,false,true,true,true,false,false] rfl rfl (one_of HT_.out (by kernel_rfl)) (by decide) (fun K hK=>?_)
                 refine Kd.R_lit_step Kd.string _ 9 ?hg (N:=47) ?hd (xs:=([t750]:List ByteArray)) (inner:=[.string t750]) (ok:=fun _=>True) (okp:=fun _=>True) ?hr ?hp (fun _ hk=>hk) trivial (Below.refl _ _) (Nat.le_refl _) (by simp) ?_;(case hd=>rfl);(case hg=>rfl);(case hr=>first | (go_simp;done) | (go_simp;rfl));(case hp=>exact (Reps.one (show Kd.M Kd.string _ _ _ t750 [.string t750] from rfl) (Reps.none _ _)))
                 intro v789 w52 ho53 hb hg_ hnew_
                 clear hg_ hnew_
                 (first | rw [← Ny788.out] at ho53 | (simp only [Int.reduceToNat] at ho53;rw [← Ny788.out] at ho53))
                 have n0_:=Aside0.mk (Kd.N_elder' (by (with_reducible repeat (first | apply Kd.N_alloc | apply Kd.N_drewN | apply Kd.N_drew));exact HO_4.out) (Kd.R_base ho53) hb)
                 have n1_:=Aside0.mk (Kd.R_elder' (by (with_reducible repeat (first | apply Kd.R_alloc | apply Kd.R_drewN | apply Kd.R_drew));exact HO_5.out) (Kd.R_base ho53) hb)
                 have n2_:=Aside0.mk (Kd.V_elder' (by (with_reducible repeat (first | apply Kd.V_alloc | apply Kd.V_drewN | apply Kd.V_drew));exact HO784.out) (Kd.R_base ho53) hb)
                 have n3_:=Aside0.mk (Kd.V_elder' (by (with_reducible repeat (first | apply Kd.V_alloc | apply Kd.V_drewN | apply Kd.V_drew));exact HO798.out) (Kd.R_base ho53) hb)
                 have n4_:=Aside0.mk (Kd.R_elder' (by (with_reducible repeat (first | apply Kd.R_alloc | apply Kd.R_drewN | apply Kd.R_drew));exact HO787.out) (Kd.R_base ho53) hb)
                 have n5_:=Aside0.mk (Kd.R_lower (Kd.R_new' (Kd.R_new' ho53 (Kd.R_lt (by (with_reducible repeat (first | apply Kd.R_alloc | apply Kd.R_drewN | apply Kd.R_drew));exact HO_5.out))) (Kd.R_lt (by (with_reducible repeat (first | apply Kd.R_alloc | apply Kd.R_drewN | apply Kd.R_drew));exact HO787.out))) (below_size (by repeat (first | (with_reducible first | exact HB.out | apply below_alloc | apply pw_below_drewN | apply below_drew1) | exact HB.out))))
                 have n6_:=Aside0.mk (below_step (by repeat (first | (with_reducible first | exact HB.out | apply below_alloc | apply pw_below_drewN | apply below_drew1) | exact HB.out)) hb)
                 clear HO_4
                 clear HO_5
                 clear HO784
                 clear HO798
                 clear HO787
                 clear HB
                 have HO_4:=n0_
                 have HO_5:=n1_
                 have HO784:=n2_
                 have HO798:=n3_
                 have HO787:=n4_
                 have HO790:=n5_
                 have HB:=n6_
                 clear n0_ n1_ n2_ n3_ n4_ n5_ n6_
                 clear hb ho53
                 refine hK.out _ _ trivial (fun hHeld=>?_)
                 clear hK K
                 refine norm_ (a':=?_) ?_ ?_
                 rotate_left
                 ·show Act.put _ (some 47) _ = _
                  simp only [Act.put,List.setIfInBounds_toArray,List.set_cons_zero,List.set_cons_succ,i64_w,i32_w]
                  rfl
                 exact norm_ (by simp only [putAll,Act.put,List.setIfInBounds_toArray,List.set_cons_zero,List.set_cons_succ]) (hCont (v778,v786,v789) _ ⟨(by (with_reducible repeat (first | apply Kd.V_alloc | apply Kd.V_drewN | apply Kd.V_drew));exact Kd.V_mono HO784.out (fun _ hk=>⟨hk.1.2,⟨hk.2,hk.1.1⟩⟩)),(by (with_reducible repeat (first | apply Kd.R_alloc | apply Kd.R_drewN | apply Kd.R_drew));exact Kd.R_mono HO787.out (fun _ hk=>⟨hk.2,hk.1⟩)),(by (with_reducible repeat (first | apply Kd.R_alloc | apply Kd.R_drewN | apply Kd.R_drew));exact Kd.R_mono HO790.out (fun _ hk=>⟨hk.2,hk.1.2⟩)),(by (with_reducible repeat (first | apply Kd.V_alloc | apply Kd.V_drewN | apply Kd.V_drew));exact Kd.V_mono HO798.out (fun _ hk=>⟨hk.1.2,⟨hk.2,hk.1.1⟩⟩)),(by (with_reducible repeat (first | apply Kd.N_alloc | apply Kd.N_drewN | apply Kd.N_drew));exact Kd.N_mono HO_4.out (fun _ hk=>⟨hk.1.2,⟨hk.2,hk.1.1⟩⟩)),(by (with_reducible repeat (first | apply Kd.R_alloc | apply Kd.R_drewN | apply Kd.R_drew));exact Kd.R_mono HO_5.out (fun _ hk=>⟨hk.1.2,hk.2⟩)),(by repeat (first | (with_reducible first | exact HB.out | apply below_alloc | apply pw_below_drewN | apply below_drew1) | exact HB.out))⟩)
                ·skip
                 refine Kd.R_lit_step Kd.string _ 9 ?hg (N:=47) ?hd (xs:=([t750]:List ByteArray)) (inner:=[.string t750]) (ok:=fun _=>True) (okp:=fun _=>True) ?hr ?hp (fun _ hk=>hk) trivial (Below.refl _ _) (Nat.le_refl _) (by simp) ?_;(case hd=>rfl);(case hg=>rfl);(case hr=>first | (go_simp;done) | (go_simp;rfl));(case hp=>exact (Reps.one (show Kd.M Kd.string _ _ _ t750 [.string t750] from rfl) (Reps.none _ _)))
                 intro v789 w51 ho52 hb hg_ hnew_
                 clear hg_ hnew_
                 (first | rw [← Ny788.out] at ho52 | (simp only [Int.reduceToNat] at ho52;rw [← Ny788.out] at ho52))
                 have n0_:=Aside0.mk (Kd.N_elder' (by (with_reducible repeat (first | apply Kd.N_alloc | apply Kd.N_drewN | apply Kd.N_drew));exact HO_4.out) (Kd.R_base ho52) hb)
                 have n1_:=Aside0.mk (Kd.R_elder' (by (with_reducible repeat (first | apply Kd.R_alloc | apply Kd.R_drewN | apply Kd.R_drew));exact HO_5.out) (Kd.R_base ho52) hb)
                 have n2_:=Aside0.mk (Kd.V_elder' (by (with_reducible repeat (first | apply Kd.V_alloc | apply Kd.V_drewN | apply Kd.V_drew));exact HO784.out) (Kd.R_base ho52) hb)
                 have n3_:=Aside0.mk (Kd.V_elder' (by (with_reducible repeat (first | apply Kd.V_alloc | apply Kd.V_drewN | apply Kd.V_drew));exact HO798.out) (Kd.R_base ho52) hb)
                 have n4_:=Aside0.mk (Kd.R_elder' (by (with_reducible repeat (first | apply Kd.R_alloc | apply Kd.R_drewN | apply Kd.R_drew));exact HO779.out) (Kd.R_base ho52) hb)
                 have n5_:=Aside0.mk (Kd.R_lower (Kd.R_new' (Kd.R_new' ho52 (Kd.R_lt (by (with_reducible repeat (first | apply Kd.R_alloc | apply Kd.R_drewN | apply Kd.R_drew));exact HO_5.out))) (Kd.R_lt (by (with_reducible repeat (first | apply Kd.R_alloc | apply Kd.R_drewN | apply Kd.R_drew));exact HO779.out))) (below_size (by repeat (first | (with_reducible first | exact HB.out | apply below_alloc | apply pw_below_drewN | apply below_drew1) | exact HB.out))))
                 have n6_:=Aside0.mk (Kd.C_below (by repeat (first | (with_reducible exact HR749_2.out) | (with_reducible refine Kd.C_alloc ?_ _) | (with_reducible refine Kd.C_drewN ?_ _) | (with_reducible refine Kd.C_drew ?_) | exact HR749_2.out)) hb)
                 have n7_:=Aside0.mk (below_step (by repeat (first | (with_reducible first | exact HB.out | apply below_alloc | apply pw_below_drewN | apply below_drew1) | exact HB.out)) hb)
                 clear HO_4
                 clear HO_5
                 clear HO784
                 clear HO798
                 clear HO779
                 clear HR749_2
                 clear HB
                 have HO_4:=n0_
                 have HO_5:=n1_
                 have HO784:=n2_
                 have HO798:=n3_
                 have HO779:=n4_
                 have HO790:=n5_
                 have HR749_2:=n6_
                 have HB:=n7_
                 clear n0_ n1_ n2_ n3_ n4_ n5_ n6_ n7_
                 clear hb ho52
                 refine hK.out _ _ trivial (fun hHeld=>?_)
                 clear hK K
                 refine norm_ (a':=?_) ?_ ?_
                 rotate_left
                 ·show Act.put _ (some 47) _ = _
                  simp only [Act.put,List.setIfInBounds_toArray,List.set_cons_zero,List.set_cons_succ,i64_w,i32_w]
                  rfl
                 refine one_ (i:=4) (N:=some 45) #[true,true,true,true,true,true,true,false,true,true,true,false,false] rfl rfl (one_of HT_.out (by kernel_rfl)) (by decide) (fun K hK=>?_)
                 refine Kd.R_append_rows_step Kd.string (w0:=w) w.heap.size (by rfl) (.tmp 41) (.tmp 44) 48 9 (.string ⟨#[]⟩) 16 rfl Tryd.underlying48 info9 rfl (by decide) (by omega) v778 y777 y780 _ _ _ (fun k_=>some k_ ≠ (.slice Ao14 x5_1.length co14:Value).ownBlock∧some k_ ≠ (v789:Value).ownBlock) (fun _=>False) rfl rfl ?aO ?aR (fun _ _ h=>h) (fun _ h=>h.elim) ?aF ?aB ?aS ?aL ?_
                 (case aR=>repeat (first | exact (Kd.V_reads' HO784.out).2.2 | (with_reducible refine Kd.C_alloc ?_ _) | (with_reducible refine Kd.C_drewN ?_ _) | (with_reducible refine Kd.C_drew ?_)))
                 (case aB=>exact (by repeat (first | (with_reducible first | exact HB.out | apply below_alloc | apply pw_below_drewN | apply below_drew1) | exact HB.out)))
                 (case aF=>exact (fun k_ hk=>⟨Kd.fresh' (Kd.R_lt (by (with_reducible repeat (first | apply Kd.R_alloc | apply Kd.R_drewN | apply Kd.R_drew));exact HO_5.out)) k_ hk,Kd.fresh' (Kd.R_lt (by (with_reducible repeat (first | apply Kd.R_alloc | apply Kd.R_drewN | apply Kd.R_drew));exact HO790.out)) k_ hk⟩))
                 (case aO=>exact (by (with_reducible repeat (first | apply Kd.R_alloc | apply Kd.R_drewN | apply Kd.R_drew));exact Kd.R_mono HO779.out (fun _ hk=>⟨hk.1.2,hk.2⟩)))
                 (case aS=>exact (below_size (by repeat (first | (with_reducible first | exact HB.out | apply below_alloc | apply pw_below_drewN | apply below_drew1) | exact HB.out))))
                 (case aL=>have:=LMc41.out;omega)
                 intro v786 w53 ho hb hg hat
                 rw [← Ny785.out] at ho
                 have n0_:=Aside0.mk (Kd.N_afterv (ok:=(fun k_=>some k_ ≠ (.slice Ao14 x5_1.length co14:Value).ownBlock∧some k_ ≠ (v789:Value).ownBlock)) (by (with_reducible repeat (first | apply Kd.N_alloc | apply Kd.N_drewN | apply Kd.N_drew));exact Kd.N_mono HO_4.out (fun _ hk=>⟨⟨hk.1.1,hk.2⟩,hk.1.2⟩)) hg hat)
                 have n1_:=Aside0.mk (Kd.R_after (ok:=(fun k_=>some k_ ≠ (v789:Value).ownBlock)) (by (with_reducible repeat (first | apply Kd.R_alloc | apply Kd.R_drewN | apply Kd.R_drew));exact Kd.R_mono HO_5.out (fun _ hk=>⟨hk.2,hk.1.2⟩)) hg hat)
                 have n2_:=Aside0.mk (Kd.V_afterv (ok:=(fun k_=>some k_ ≠ (.slice (some ad749) t743.length co12:Value).ownBlock∧some k_ ≠ (v789:Value).ownBlock)) (by (with_reducible repeat (first | apply Kd.V_alloc | apply Kd.V_drewN | apply Kd.V_drew));exact Kd.V_mono HO784.out (fun _ hk=>⟨⟨hk.1.1.2,hk.2⟩,hk.1.2⟩)) hg hat)
                 have n3_:=Aside0.mk (Kd.V_afterv (ok:=(fun k_=>some k_ ≠ (.slice (some ad749) t743.length co12:Value).ownBlock∧some k_ ≠ (v789:Value).ownBlock)) (by (with_reducible repeat (first | apply Kd.V_alloc | apply Kd.V_drewN | apply Kd.V_drew));exact Kd.V_mono HO798.out (fun _ hk=>⟨⟨hk.1.1.2,hk.2⟩,hk.1.2⟩)) hg hat)
                 have n4_:=Aside0.mk (Kd.R_after (ok:=(fun k_=>some k_ ≠ (.slice Ao14 x5_1.length co14:Value).ownBlock)) (by (with_reducible repeat (first | apply Kd.R_alloc | apply Kd.R_drewN | apply Kd.R_drew));exact Kd.R_mono HO790.out (fun _ hk=>⟨hk.1.2,hk.2⟩)) hg hat)
                 have n5_:=Aside0.mk (hb)
                 have n6_:=Aside0.mk (ho)
                 clear HO_4
                 clear HO_5
                 clear HO784
                 clear HO798
                 clear HO790
                 clear HB
                 clear HO779
                 have HO_4:=n0_
                 have HO_5:=n1_
                 have HO784:=n2_
                 have HO798:=n3_
                 have HO790:=n4_
                 have HB:=n5_
                 have HO787:=n6_
                 clear n0_ n1_ n2_ n3_ n4_ n5_ n6_
                 clear ho hb hg hat
                 refine hK.out _ _ trivial (fun hHeld=>?_)
                 clear hK K
                 refine norm_ (a':=?_) ?_ ?_
                 rotate_left
                 ·show Act.put _ (some 45) _ = _
                  simp only [Act.put,List.setIfInBounds_toArray,List.set_cons_zero,List.set_cons_succ,i64_w,i32_w]
                  rfl
                 exact norm_ (by simp only [putAll,Act.put,List.setIfInBounds_toArray,List.set_cons_zero,List.set_cons_succ]) (hCont (v778,v786,v789) _ ⟨(by (with_reducible repeat (first | apply Kd.V_alloc | apply Kd.V_drewN | apply Kd.V_drew));exact Kd.V_mono HO784.out (fun _ hk=>⟨hk.2,⟨hk.1.2,hk.1.1⟩⟩)),(by (with_reducible repeat (first | apply Kd.R_alloc | apply Kd.R_drewN | apply Kd.R_drew));exact Kd.R_mono HO787.out (fun _ hk=>⟨hk.2,hk.1⟩)),(by (with_reducible repeat (first | apply Kd.R_alloc | apply Kd.R_drewN | apply Kd.R_drew));exact Kd.R_mono HO790.out (fun _ hk=>⟨hk.2,hk.1⟩)),(by (with_reducible repeat (first | apply Kd.V_alloc | apply Kd.V_drewN | apply Kd.V_drew));exact Kd.V_mono HO798.out (fun _ hk=>⟨hk.2,⟨hk.1.2,hk.1.1⟩⟩)),(by (with_reducible repeat (first | apply Kd.N_alloc | apply Kd.N_drewN | apply Kd.N_drew));exact Kd.N_mono HO_4.out (fun _ hk=>⟨hk.2,⟨hk.1.2,hk.1.1⟩⟩)),(by (with_reducible repeat (first | apply Kd.R_alloc | apply Kd.R_drewN | apply Kd.R_drew));exact Kd.R_mono HO_5.out (fun _ hk=>⟨hk.2,hk.1⟩)),(by repeat (first | (with_reducible first | exact HB.out | apply below_alloc | apply pw_below_drewN | apply below_drew1) | exact HB.out))⟩)
               ·skip
                refine Kd.R_lit_step Kd.string _ 9 ?hg (N:=47) ?hd (xs:=([t750]:List ByteArray)) (inner:=[.string t750]) (ok:=fun _=>True) (okp:=fun _=>True) ?hr ?hp (fun _ hk=>hk) trivial (Below.refl _ _) (Nat.le_refl _) (by simp) ?_;(case hd=>rfl);(case hg=>rfl);(case hr=>first | (go_simp;done) | (go_simp;rfl));(case hp=>exact (Reps.one (show Kd.M Kd.string _ _ _ t750 [.string t750] from rfl) (Reps.none _ _)))
                intro v789 w49 ho50 hb hg_ hnew_
                clear hg_ hnew_
                (first | rw [← Ny788.out] at ho50 | (simp only [Int.reduceToNat] at ho50;rw [← Ny788.out] at ho50))
                have n0_:=Aside0.mk (Kd.N_elder' (by (with_reducible repeat (first | apply Kd.N_alloc | apply Kd.N_drewN | apply Kd.N_drew));exact HO_4.out) (Kd.R_base ho50) hb)
                have n1_:=Aside0.mk (Kd.R_elder' (by (with_reducible repeat (first | apply Kd.R_alloc | apply Kd.R_drewN | apply Kd.R_drew));exact HO_5.out) (Kd.R_base ho50) hb)
                have n2_:=Aside0.mk (Kd.V_elder' (by (with_reducible repeat (first | apply Kd.V_alloc | apply Kd.V_drewN | apply Kd.V_drew));exact HO784.out) (Kd.R_base ho50) hb)
                have n3_:=Aside0.mk (Kd.V_elder' (by (with_reducible repeat (first | apply Kd.V_alloc | apply Kd.V_drewN | apply Kd.V_drew));exact HO798.out) (Kd.R_base ho50) hb)
                have n4_:=Aside0.mk (Kd.R_lower (Kd.R_new' ho50 (Kd.R_lt (by (with_reducible repeat (first | apply Kd.R_alloc | apply Kd.R_drewN | apply Kd.R_drew));exact HO_5.out))) (below_size (by repeat (first | (with_reducible first | exact HB.out | apply below_alloc | apply pw_below_drewN | apply below_drew1) | exact HB.out))))
                have n5_:=Aside0.mk (Kd.C_below (by repeat (first | (with_reducible exact HR749_2.out) | (with_reducible refine Kd.C_alloc ?_ _) | (with_reducible refine Kd.C_drewN ?_ _) | (with_reducible refine Kd.C_drew ?_) | exact HR749_2.out)) hb)
                have n6_:=Aside0.mk (below_step (by repeat (first | (with_reducible first | exact HB.out | apply below_alloc | apply pw_below_drewN | apply below_drew1) | exact HB.out)) hb)
                clear HO_4
                clear HO_5
                clear HO784
                clear HO798
                clear HR749_2
                clear HB
                have HO_4:=n0_
                have HO_5:=n1_
                have HO784:=n2_
                have HO798:=n3_
                have HO790:=n4_
                have HR749_2:=n5_
                have HB:=n6_
                clear n0_ n1_ n2_ n3_ n4_ n5_ n6_
                clear hb ho50
                refine hK.out _ _ trivial (fun hHeld=>?_)
                clear hK K
                refine norm_ (a':=?_) ?_ ?_
                rotate_left
                ·show Act.put _ (some 47) _ = _
                 simp only [Act.put,List.setIfInBounds_toArray,List.set_cons_zero,List.set_cons_succ,i64_w,i32_w]
                 rfl
                refine one_ (i:=0) (N:=some 41) #[true,true,true,true,false,true,true,false,true,true,true,false,false] rfl rfl (one_of HT_.out (by kernel_rfl)) (by decide) (fun K hK=>?_)
                refine Kd.R_lit_step Kd.string _ 9 ?hg (N:=41) ?hd (xs:=([]:List ByteArray)) (inner:=[]) (ok:=fun _=>True) (okp:=fun _=>True) ?hr ?hp (fun _ hk=>hk) trivial (Below.refl _ _) (Nat.le_refl _) (by simp) ?_;(case hd=>rfl);(case hg=>rfl);(case hr=>first | (go_simp;done) | (go_simp;rfl));(case hp=>exact (Reps.none _ _))
                intro v778 w51 ho52 hb hg_ hnew_
                clear hg_ hnew_
                (first | rw [← Ny777.out] at ho52 | (simp only [Int.reduceToNat] at ho52;rw [← Ny777.out] at ho52))
                have n0_:=Aside0.mk (Kd.N_elder' (by (with_reducible repeat (first | apply Kd.N_alloc | apply Kd.N_drewN | apply Kd.N_drew));exact HO_4.out) (Kd.R_base ho52) hb)
                have n1_:=Aside0.mk (Kd.R_elder' (by (with_reducible repeat (first | apply Kd.R_alloc | apply Kd.R_drewN | apply Kd.R_drew));exact HO_5.out) (Kd.R_base ho52) hb)
                have n2_:=Aside0.mk (Kd.V_elder' (by (with_reducible repeat (first | apply Kd.V_alloc | apply Kd.V_drewN | apply Kd.V_drew));exact HO784.out) (Kd.R_base ho52) hb)
                have n3_:=Aside0.mk (Kd.V_elder' (by (with_reducible repeat (first | apply Kd.V_alloc | apply Kd.V_drewN | apply Kd.V_drew));exact HO798.out) (Kd.R_base ho52) hb)
                have n4_:=Aside0.mk (Kd.R_elder' (by (with_reducible repeat (first | apply Kd.R_alloc | apply Kd.R_drewN | apply Kd.R_drew));exact HO790.out) (Kd.R_base ho52) hb)
                have n5_:=Aside0.mk (Kd.R_lower (Kd.R_new' (Kd.R_new' ho52 (Kd.R_lt (by (with_reducible repeat (first | apply Kd.R_alloc | apply Kd.R_drewN | apply Kd.R_drew));exact HO_5.out))) (Kd.R_lt (by (with_reducible repeat (first | apply Kd.R_alloc | apply Kd.R_drewN | apply Kd.R_drew));exact HO790.out))) (below_size (by repeat (first | (with_reducible first | exact HB.out | apply below_alloc | apply pw_below_drewN | apply below_drew1) | exact HB.out))))
                have n6_:=Aside0.mk (Kd.C_below (by repeat (first | (with_reducible exact HR749_2.out) | (with_reducible refine Kd.C_alloc ?_ _) | (with_reducible refine Kd.C_drewN ?_ _) | (with_reducible refine Kd.C_drew ?_) | exact HR749_2.out)) hb)
                have n7_:=Aside0.mk (below_step (by repeat (first | (with_reducible first | exact HB.out | apply below_alloc | apply pw_below_drewN | apply below_drew1) | exact HB.out)) hb)
                clear HO_4
                clear HO_5
                clear HO784
                clear HO798
                clear HO790
                clear HR749_2
                clear HB
                have HO_4:=n0_
                have HO_5:=n1_
                have HO784:=n2_
                have HO798:=n3_
                have HO790:=n4_
                have HO779:=n5_
                have HR749_2:=n6_
                have HB:=n7_
                clear n0_ n1_ n2_ n3_ n4_ n5_ n6_ n7_
                clear hb ho52
                refine hK.out _ _ trivial (fun hHeld=>?_)
                clear hK K
                refine norm_ (a':=?_) ?_ ?_
                rotate_left
                ·show Act.put _ (some 41) _ = _
                 simp only [Act.put,List.setIfInBounds_toArray,List.set_cons_zero,List.set_cons_succ,i64_w,i32_w]
                 rfl
                refine one_ (i:=4) (N:=some 45) #[true,true,true,true,true,true,true,false,true,true,true,false,false] rfl rfl (one_of HT_.out (by kernel_rfl)) (by decide) (fun K hK=>?_)
                refine Kd.R_append_rows_step Kd.string (w0:=w) w.heap.size (by rfl) (.tmp 41) (.tmp 44) 48 9 (.string ⟨#[]⟩) 16 rfl Tryd.underlying48 info9 rfl (by decide) (by omega) v778 y777 y780 _ _ _ (fun k_=>some k_ ≠ (.slice Ao14 x5_1.length co14:Value).ownBlock∧some k_ ≠ (v789:Value).ownBlock) (fun _=>False) rfl rfl ?aO ?aR (fun _ _ h=>h) (fun _ h=>h.elim) ?aF ?aB ?aS ?aL ?_
                (case aR=>repeat (first | exact (Kd.V_reads' HO784.out).2.2 | (with_reducible refine Kd.C_alloc ?_ _) | (with_reducible refine Kd.C_drewN ?_ _) | (with_reducible refine Kd.C_drew ?_)))
                (case aB=>exact (by repeat (first | (with_reducible first | exact HB.out | apply below_alloc | apply pw_below_drewN | apply below_drew1) | exact HB.out)))
                (case aF=>exact (fun k_ hk=>⟨Kd.fresh' (Kd.R_lt (by (with_reducible repeat (first | apply Kd.R_alloc | apply Kd.R_drewN | apply Kd.R_drew));exact HO_5.out)) k_ hk,Kd.fresh' (Kd.R_lt (by (with_reducible repeat (first | apply Kd.R_alloc | apply Kd.R_drewN | apply Kd.R_drew));exact HO790.out)) k_ hk⟩))
                (case aO=>exact (by (with_reducible repeat (first | apply Kd.R_alloc | apply Kd.R_drewN | apply Kd.R_drew));exact Kd.R_mono HO779.out (fun _ hk=>⟨hk.1.2,hk.2⟩)))
                (case aS=>exact (below_size (by repeat (first | (with_reducible first | exact HB.out | apply below_alloc | apply pw_below_drewN | apply below_drew1) | exact HB.out))))
                (case aL=>have:=LMc41.out;omega)
                intro v786 w53 ho hb hg hat
                rw [← Ny785.out] at ho
                have n0_:=Aside0.mk (Kd.N_afterv (ok:=(fun k_=>some k_ ≠ (.slice Ao14 x5_1.length co14:Value).ownBlock∧some k_ ≠ (v789:Value).ownBlock)) (by (with_reducible repeat (first | apply Kd.N_alloc | apply Kd.N_drewN | apply Kd.N_drew));exact HO_4.out) hg hat)
                have n1_:=Aside0.mk (Kd.R_after (ok:=(fun k_=>some k_ ≠ (v789:Value).ownBlock)) (by (with_reducible repeat (first | apply Kd.R_alloc | apply Kd.R_drewN | apply Kd.R_drew));exact Kd.R_mono HO_5.out (fun _ hk=>⟨hk.1.2,hk.2⟩)) hg hat)
                have n2_:=Aside0.mk (Kd.V_afterv (ok:=(fun k_=>some k_ ≠ (.slice (some ad749) t743.length co12:Value).ownBlock∧some k_ ≠ (v789:Value).ownBlock)) (by (with_reducible repeat (first | apply Kd.V_alloc | apply Kd.V_drewN | apply Kd.V_drew));exact Kd.V_mono HO784.out (fun _ hk=>⟨⟨hk.1.1.2,hk.1.2⟩,hk.2⟩)) hg hat)
                have n3_:=Aside0.mk (Kd.V_afterv (ok:=(fun k_=>some k_ ≠ (.slice (some ad749) t743.length co12:Value).ownBlock∧some k_ ≠ (v789:Value).ownBlock)) (by (with_reducible repeat (first | apply Kd.V_alloc | apply Kd.V_drewN | apply Kd.V_drew));exact Kd.V_mono HO798.out (fun _ hk=>⟨⟨hk.1.1.2,hk.1.2⟩,hk.2⟩)) hg hat)
                have n4_:=Aside0.mk (Kd.R_after (ok:=(fun k_=>some k_ ≠ (.slice Ao14 x5_1.length co14:Value).ownBlock)) (by (with_reducible repeat (first | apply Kd.R_alloc | apply Kd.R_drewN | apply Kd.R_drew));exact Kd.R_mono HO790.out (fun _ hk=>⟨hk.1.2,hk.2⟩)) hg hat)
                have n5_:=Aside0.mk (hb)
                have n6_:=Aside0.mk (ho)
                clear HO_4
                clear HO_5
                clear HO784
                clear HO798
                clear HO790
                clear HB
                clear HO779
                have HO_4:=n0_
                have HO_5:=n1_
                have HO784:=n2_
                have HO798:=n3_
                have HO790:=n4_
                have HB:=n5_
                have HO787:=n6_
                clear n0_ n1_ n2_ n3_ n4_ n5_ n6_
                clear ho hb hg hat
                refine hK.out _ _ trivial (fun hHeld=>?_)
                clear hK K
                refine norm_ (a':=?_) ?_ ?_
                rotate_left
                ·show Act.put _ (some 45) _ = _
                 simp only [Act.put,List.setIfInBounds_toArray,List.set_cons_zero,List.set_cons_succ,i64_w,i32_w]
                 rfl
                exact norm_ (by simp only [putAll,Act.put,List.setIfInBounds_toArray,List.set_cons_zero,List.set_cons_succ]) (hCont (v778,v786,v789) _ ⟨(by (with_reducible repeat (first | apply Kd.V_alloc | apply Kd.V_drewN | apply Kd.V_drew));exact Kd.V_mono HO784.out (fun _ hk=>⟨hk.2,⟨hk.1.2,hk.1.1⟩⟩)),(by (with_reducible repeat (first | apply Kd.R_alloc | apply Kd.R_drewN | apply Kd.R_drew));exact Kd.R_mono HO787.out (fun _ hk=>⟨hk.2,hk.1⟩)),(by (with_reducible repeat (first | apply Kd.R_alloc | apply Kd.R_drewN | apply Kd.R_drew));exact Kd.R_mono HO790.out (fun _ hk=>⟨hk.2,hk.1⟩)),(by (with_reducible repeat (first | apply Kd.V_alloc | apply Kd.V_drewN | apply Kd.V_drew));exact Kd.V_mono HO798.out (fun _ hk=>⟨hk.2,⟨hk.1.2,hk.1.1⟩⟩)),(by (with_reducible repeat (first | apply Kd.N_alloc | apply Kd.N_drewN | apply Kd.N_drew));exact Kd.N_mono HO_4.out (fun _ hk=>⟨hk.2,⟨hk.1.2,hk.1.1⟩⟩)),(by (with_reducible repeat (first | apply Kd.R_alloc | apply Kd.R_drewN | apply Kd.R_drew));exact Kd.R_mono HO_5.out (fun _ hk=>⟨hk.2,hk.1⟩)),(by repeat (first | (with_reducible first | exact HB.out | apply below_alloc | apply pw_below_drewN | apply below_drew1) | exact HB.out))⟩)
              rintro ⟨v778,v786,v789⟩ w54 ⟨h0_,h1_,h2_,h3_,h4_,h5_,h6_⟩
              have n0_:Aside0 (Kd.V Kd.string 9 w54 w.heap.size (fun k_=>some k_ ≠ (v786:Value).ownBlock∧some k_ ≠ (v789:Value).ownBlock∧some k_ ≠ (.slice (some ad749) t743.length co12:Value).ownBlock) (.slice Ao14 y780.length co14) y780):=⟨h0_⟩
              have n1_:Aside0 (Kd.R Kd.string 9 w54 w.heap.size (fun k_=>some k_ ≠ (v789:Value).ownBlock∧some k_ ≠ (.slice Ao14 x5_1.length co14:Value).ownBlock) v786 y785):=⟨h1_⟩
              have n2_:Aside0 (Kd.R Kd.string 9 w54 w.heap.size (fun k_=>some k_ ≠ (v786:Value).ownBlock∧some k_ ≠ (.slice Ao14 x5_1.length co14:Value).ownBlock) v789 y788):=⟨h2_⟩
              have n3_:Aside0 (Kd.V Kd.string 9 w54 w.heap.size (fun k_=>some k_ ≠ (v786:Value).ownBlock∧some k_ ≠ (v789:Value).ownBlock∧some k_ ≠ (.slice (some ad749) t743.length co12:Value).ownBlock) (.slice A48 y794.length c48) y794):=⟨h3_⟩
              have n4_:Aside0 (Kd.N k25 25 w54 w.heap.size (fun k_=>some k_ ≠ (v786:Value).ownBlock∧some k_ ≠ (v789:Value).ownBlock∧some k_ ≠ (.slice Ao14 x5_1.length co14:Value).ownBlock) (.slice (some ad749) t743.length co12) t743):=⟨h4_⟩
              have n5_:Aside0 (Kd.R Kd.string 9 w54 w.heap.size (fun k_=>some k_ ≠ (v786:Value).ownBlock∧some k_ ≠ (v789:Value).ownBlock) (.slice Ao14 x5_1.length co14) x5_1):=⟨h5_⟩
              have n6_:Aside0 (Below w.heap.size w w54):=⟨h6_⟩
              clear HO_4
              clear HO_5
              clear HR749_2
              clear HB
              clear h0_ h1_ h2_ h3_ h4_ h5_ h6_
              have HO784:=n0_
              have HO787:=n1_
              have HO790:=n2_
              have HO798:=n3_
              have HO_4:=n4_
              have HO_5:=n5_
              have HB:=n6_
              clear n0_ n1_ n2_ n3_ n4_ n5_ n6_
              have hHeld:=trivial
              obtain ⟨Ao56,co56,eo56⟩:=Kd.R_slice HO790.out
              (first | subst eo56 | (injection eo56 with f1_ f2_ f3_;have f4_:=f1_.symm;have f5_:=f3_.symm;clear f1_ f2_ f3_;subst f4_;subst f5_))
              refine norm_ (a':=?_) ?_ ?_
              rotate_left;·simp only [putAll,Act.put,List.setIfInBounds_toArray,List.set_cons_zero,List.set_cons_succ];rfl
              refine one_ (i:=7) (N:=some 48) #[true,true,true,true,true,true,true,true,true,true,true,false,false] rfl rfl (one_of HT_.out (by kernel_rfl)) (by decide) (fun K hK=>?_)
              refine Kd.R_append_rows_step Kd.string (w0:=w) w.heap.size (by rfl) (.tmp 45) (.tmp 47) 48 9 (.string ⟨#[]⟩) 16 rfl Tryd.underlying48 info9 rfl (by decide) (by omega) v786 y785 y788 _ _ _ (fun k_=>some k_ ≠ (.slice Ao14 x5_1.length co14:Value).ownBlock∧some k_ ≠ (.slice Ao56 y788.length co56:Value).ownBlock) (fun _=>False) rfl rfl ?aO ?aR (fun _ _ h=>h) (fun _ h=>h.elim) ?aF ?aB ?aS ?aL ?_
              (case aR=>repeat (first | exact (Kd.R_reads' HO790.out).2.2 | (with_reducible refine Kd.C_alloc ?_ _) | (with_reducible refine Kd.C_drewN ?_ _) | (with_reducible refine Kd.C_drew ?_)))
              (case aB=>exact (by repeat (first | (with_reducible first | exact HB.out | apply below_alloc | apply pw_below_drewN | apply below_drew1) | exact HB.out)))
              (case aF=>exact (fun k_ hk=>⟨Kd.fresh' (Kd.R_lt (by (with_reducible repeat (first | apply Kd.R_alloc | apply Kd.R_drewN | apply Kd.R_drew));exact HO_5.out)) k_ hk,Kd.fresh' (Kd.R_lt (by (with_reducible repeat (first | apply Kd.R_alloc | apply Kd.R_drewN | apply Kd.R_drew));exact HO790.out)) k_ hk⟩))
              (case aO=>exact (by (with_reducible repeat (first | apply Kd.R_alloc | apply Kd.R_drewN | apply Kd.R_drew));exact Kd.R_mono HO787.out (fun _ hk=>⟨hk.2,hk.1⟩)))
              (case aS=>exact (below_size (by repeat (first | (with_reducible first | exact HB.out | apply below_alloc | apply pw_below_drewN | apply below_drew1) | exact HB.out))))
              (case aL=>have:=LMc42.out;omega)
              intro v792 w55 ho hb hg hat
              rw [← Ny791.out] at ho
              have n0_:=Aside0.mk (Kd.N_afterv (ok:=(fun k_=>some k_ ≠ (.slice Ao14 x5_1.length co14:Value).ownBlock∧some k_ ≠ (.slice Ao56 y788.length co56:Value).ownBlock)) (by (with_reducible repeat (first | apply Kd.N_alloc | apply Kd.N_drewN | apply Kd.N_drew));exact Kd.N_mono HO_4.out (fun _ hk=>⟨⟨hk.2.2,hk.2.1⟩,hk.1⟩)) hg hat)
              have n1_:=Aside0.mk (Kd.R_after (ok:=(fun k_=>some k_ ≠ (.slice Ao56 y788.length co56:Value).ownBlock)) (by (with_reducible repeat (first | apply Kd.R_alloc | apply Kd.R_drewN | apply Kd.R_drew));exact Kd.R_mono HO_5.out (fun _ hk=>⟨hk.2,hk.1⟩)) hg hat)
              have n2_:=Aside0.mk (Kd.V_afterv (ok:=(fun k_=>some k_ ≠ (.slice (some ad749) t743.length co12:Value).ownBlock∧some k_ ≠ (.slice Ao56 y788.length co56:Value).ownBlock)) (by (with_reducible repeat (first | apply Kd.V_alloc | apply Kd.V_drewN | apply Kd.V_drew));exact Kd.V_mono HO784.out (fun _ hk=>⟨⟨hk.2.2,hk.2.1⟩,hk.1⟩)) hg hat)
              have n3_:=Aside0.mk (Kd.V_afterv (ok:=(fun k_=>some k_ ≠ (.slice (some ad749) t743.length co12:Value).ownBlock∧some k_ ≠ (.slice Ao56 y788.length co56:Value).ownBlock)) (by (with_reducible repeat (first | apply Kd.V_alloc | apply Kd.V_drewN | apply Kd.V_drew));exact Kd.V_mono HO798.out (fun _ hk=>⟨⟨hk.2.2,hk.2.1⟩,hk.1⟩)) hg hat)
              have n4_:=Aside0.mk (Kd.R_after (ok:=(fun k_=>some k_ ≠ (.slice Ao14 x5_1.length co14:Value).ownBlock)) (by (with_reducible repeat (first | apply Kd.R_alloc | apply Kd.R_drewN | apply Kd.R_drew));exact Kd.R_mono HO790.out (fun _ hk=>⟨hk.2,hk.1⟩)) hg hat)
              have n5_:=Aside0.mk (hb)
              have n6_:=Aside0.mk (ho)
              clear HO_4
              clear HO_5
              clear HO784
              clear HO798
              clear HO790
              clear HB
              clear HO787
              have HO_4:=n0_
              have HO_5:=n1_
              have HO784:=n2_
              have HO798:=n3_
              have HO790:=n4_
              have HB:=n5_
              have HO793:=n6_
              clear n0_ n1_ n2_ n3_ n4_ n5_ n6_
              clear ho hb hg hat
              refine hK.out _ _ trivial (fun hHeld=>?_)
              clear hK K
              refine norm_ (a':=?_) ?_ ?_
              rotate_left
              ·show Act.put _ (some 48) _ = _
               simp only [Act.put,List.setIfInBounds_toArray,List.set_cons_zero,List.set_cons_succ,i64_w,i32_w]
               rfl
              refine one_ (i:=11) (N:=some 52) #[true,true,true,true,true,true,true,true,true,true,true,true,false] rfl rfl (one_of HT_.out (by kernel_rfl)) (by decide) (fun K hK=>?_)
              refine Kd.R_append_rows_step Kd.string (w0:=w) w.heap.size (by rfl) (.tmp 48) (.tmp 51) 48 9 (.string ⟨#[]⟩) 16 rfl Tryd.underlying48 info9 rfl (by decide) (by omega) v792 y791 y794 _ _ _ (fun k_=>some k_ ≠ (.slice Ao14 x5_1.length co14:Value).ownBlock∧some k_ ≠ (.slice Ao56 y788.length co56:Value).ownBlock) (fun _=>False) rfl rfl ?aO ?aR (fun _ _ h=>h) (fun _ h=>h.elim) ?aF ?aB ?aS ?aL ?_
              (case aR=>repeat (first | exact (Kd.V_reads' HO798.out).2.2 | (with_reducible refine Kd.C_alloc ?_ _) | (with_reducible refine Kd.C_drewN ?_ _) | (with_reducible refine Kd.C_drew ?_)))
              (case aB=>exact (by repeat (first | (with_reducible first | exact HB.out | apply below_alloc | apply pw_below_drewN | apply below_drew1) | exact HB.out)))
              (case aF=>exact (fun k_ hk=>⟨Kd.fresh' (Kd.R_lt (by (with_reducible repeat (first | apply Kd.R_alloc | apply Kd.R_drewN | apply Kd.R_drew));exact HO_5.out)) k_ hk,Kd.fresh' (Kd.R_lt (by (with_reducible repeat (first | apply Kd.R_alloc | apply Kd.R_drewN | apply Kd.R_drew));exact HO790.out)) k_ hk⟩))
              (case aO=>exact (by (with_reducible repeat (first | apply Kd.R_alloc | apply Kd.R_drewN | apply Kd.R_drew));exact HO793.out))
              (case aS=>exact (below_size (by repeat (first | (with_reducible first | exact HB.out | apply below_alloc | apply pw_below_drewN | apply below_drew1) | exact HB.out))))
              (case aL=>have:=LMc45.out;omega)
              intro v800 w57 ho hb hg hat
              rw [← Ny799.out] at ho
              have n0_:=Aside0.mk (Kd.N_afterv (ok:=(fun k_=>some k_ ≠ (.slice Ao14 x5_1.length co14:Value).ownBlock∧some k_ ≠ (.slice Ao56 y788.length co56:Value).ownBlock)) (by (with_reducible repeat (first | apply Kd.N_alloc | apply Kd.N_drewN | apply Kd.N_drew));exact HO_4.out) hg hat)
              have n1_:=Aside0.mk (Kd.R_after (ok:=(fun k_=>some k_ ≠ (.slice Ao56 y788.length co56:Value).ownBlock)) (by (with_reducible repeat (first | apply Kd.R_alloc | apply Kd.R_drewN | apply Kd.R_drew));exact HO_5.out) hg hat)
              have n2_:=Aside0.mk (Kd.V_afterv (ok:=(fun k_=>some k_ ≠ (.slice (some ad749) t743.length co12:Value).ownBlock∧some k_ ≠ (.slice Ao56 y788.length co56:Value).ownBlock)) (by (with_reducible repeat (first | apply Kd.V_alloc | apply Kd.V_drewN | apply Kd.V_drew));exact HO784.out) hg hat)
              have n3_:=Aside0.mk (Kd.V_afterv (ok:=(fun k_=>some k_ ≠ (.slice (some ad749) t743.length co12:Value).ownBlock∧some k_ ≠ (.slice Ao56 y788.length co56:Value).ownBlock)) (by (with_reducible repeat (first | apply Kd.V_alloc | apply Kd.V_drewN | apply Kd.V_drew));exact HO798.out) hg hat)
              have n4_:=Aside0.mk (Kd.R_after (ok:=(fun k_=>some k_ ≠ (.slice Ao14 x5_1.length co14:Value).ownBlock)) (by (with_reducible repeat (first | apply Kd.R_alloc | apply Kd.R_drewN | apply Kd.R_drew));exact HO790.out) hg hat)
              have n5_:=Aside0.mk (hb)
              have n6_:=Aside0.mk (ho)
              clear HO_4
              clear HO_5
              clear HO784
              clear HO798
              clear HO790
              clear HB
              clear HO793
              have HO_4:=n0_
              have HO_5:=n1_
              have HO784:=n2_
              have HO798:=n3_
              have HO790:=n4_
              have HB:=n5_
              have HO801:=n6_
              clear n0_ n1_ n2_ n3_ n4_ n5_ n6_
              clear ho hb hg hat
              refine hK.out _ _ trivial (fun hHeld=>?_)
              clear hK K
              refine norm_ (a':=?_) ?_ ?_
              rotate_left
              ·show Act.put _ (some 52) _ = _
               simp only [Act.put,List.setIfInBounds_toArray,List.set_cons_zero,List.set_cons_succ,i64_w,i32_w]
               rfl
              refine pure_ (i:=12) (N:=some 5) (v:=?_) (a':=?_) #[true,true,true,true,true,true,true,true,true,true,true,true,true] rfl rfl (any_of HT_.out (by kernel_rfl)) (fun _ _ _ h=>h) (Or.inl ⟨by rfl,?_⟩) ?_ ?_
              rotate_left;·intro w';go_simp;with_reducible rfl
              rotate_left;·simp only [Act.put,List.setIfInBounds_toArray,List.set_cons_zero,List.set_cons_succ,i64_w,i32_w];rfl
              refine done_ (done_of HT_.out (by kernel_rfl)) ?_
              try go_wp2
              go_roundg k2
              case measure=>have:=HK1.out;have:=HK2.out;omega
              case rel=>exact ⟨(y799),(wrap64 (x6_1 + 1)),(by first | rfl | (simp;done) | (simp [*];done)),H',⟨by have:=HK1.out;have:=HK2.out;omega⟩,⟨by (with_reducible repeat (first | apply Kd.N_alloc | apply Kd.N_drewN | apply Kd.N_drew));exact Kd.N_mono HO_4.out (fun _ hk=>hk.2)⟩,⟨by (with_reducible repeat (first | apply Kd.R_alloc | apply Kd.R_drewN | apply Kd.R_drew));exact Kd.R_mono HO801.out (fun _ hk=>trivial)⟩,⟨by repeat (first | (with_reducible first | exact HB.out | apply below_alloc | apply pw_below_drewN | apply below_drew1) | exact HB.out)⟩⟩
             ·rw [if_neg c45] at H
              exact absurd H (by simp)
            ·rw [if_neg c42] at H
             exact absurd H (by simp)
           ·rw [if_neg c41] at H
            exact absurd H (by simp)
          ·rw [if_neg c40] at H
           exact absurd H (by simp)
         ·rw [if_neg c39] at H
          exact absurd H (by simp)
     ·rw [if_neg c10] at H
      exact absurd H (by simp)
    ·rw [if_neg c9] at H
     have c9b0:decide (x6_1 < (t743.length:Int)) = false:=decide_eq_false c9
     clear c9
     simp only [Option.some.injEq,Prod.mk.injEq] at H
     obtain ⟨rfl,rfl⟩:=H
     obtain ⟨Ao58,co58,eo58⟩:=Kd.N_slice HO_4.out
     subst eo58
     go_wp2
     go_ret2
     exact ⟨_,by first | rfl | (simp [errW_none,errW_some] <;> rfl) | (simp [*,errW_none,errW_some] <;> rfl),by (with_reducible repeat (first | apply Kd.R_alloc | apply Kd.R_drewN | apply Kd.R_drew));exact HO_5.out,by repeat (first | (with_reducible first | exact HB.out | apply below_alloc | apply pw_below_drewN | apply below_drew1) | exact HB.out)⟩
 ·replace c3:=Bool.eq_false_iff.mpr c3
  subst c3
  have H1:(some (([]:List ByteArray),false)) = some (r1,r2):=by rw [if_neg (show ¬ (false = true) by decide)] at H;exact H
  clear H
  have H:=H1
  clear H1
  simp only [Option.some.injEq,Prod.mk.injEq] at H
  obtain ⟨rfl,rfl⟩:=H
  go_enter Tryd.func33,Tryd.ntmps33
  go_wp2_with (first | ((with_reducible refine gate_callee (f:=51) rfl ?_);refine goesL_ (some 10) rfl rfl Tryd.func51 (by kernel_rfl) rfl #[.slice A0 l0.length c0] rfl (by (try simp only [List.map_toArray,List.map_cons,List.map_nil]);first | done | rfl | (simp only [List.length_drop,List.length_take];rfl)) ?_;(with_reducible refine (spec_l20Known.calls k _ _ l0 false _ ?side1 ?side2 A2.out).mono ?_);(case side1=>repeat (first | exact HR0.out | (with_reducible refine Kd.C_alloc ?_ _) | (with_reducible refine Kd.C_drewN ?_ _) | (with_reducible refine Kd.C_drew ?_)));(case side2=>exact HC0.out);rintro e w59 ⟨rfl,hb⟩;refine ⟨_,rfl,?_⟩;have n0_:=Aside0.mk (below_step (by repeat (first | (with_reducible first | exact HB.out | apply below_alloc | apply pw_below_drewN | apply below_drew1) | exact HB.out)) hb);clear HB;have HB:=n0_;clear n0_;(try clear hb);(try clear hb2);(try clear hk);(try clear hi)))
  go_ret2
  exact ⟨_,by first | rfl | (simp [errW_none,errW_some] <;> rfl) | (simp [*,errW_none,errW_some] <;> rfl),by first | exact Kd.R_nil _ _ _ _ _ | exact Kd.N_nil _ _ _ _ _ | exact Kd.V_nil _ _ _ _ _ | exact Kd.Q_nil _ _ _ _ _ | exact Kd.S_nil _ _ _ _ _,by repeat (first | (with_reducible first | exact HB.out | apply below_alloc | apply pw_below_drewN | apply below_drew1) | exact HB.out)⟩
def impl_sealText.f:Nat → Int → Int → List (S25) → Option (ByteArray)
 | 0,_,_,_=>none
 | k + 1,a0_0,a0_1,l0_2=>if a0_0 = 1 then (if 0 < (l0_2.length:Int) then ((impl_sealText.f k ((rd_T25 l0_2 0).f0) ((rd_T25 l0_2 0).f1) ((rd_T25 l0_2 0).f2)).bind fun t167=>(if 1 + t167.size ≤ 9223372036854775807 then (if ((⟨#[40]⟩:ByteArray) ++ t167).size + 1 ≤ 9223372036854775807 then (if 1 < (l0_2.length:Int) then ((impl_sealText.f k ((rd_T25 l0_2 1).f0) ((rd_T25 l0_2 1).f1) ((rd_T25 l0_2 1).f2)).bind fun t169=>(if (((⟨#[40]⟩:ByteArray) ++ t167) ++ (⟨#[32]⟩:ByteArray)).size + t169.size ≤ 9223372036854775807 then (if ((((⟨#[40]⟩:ByteArray) ++ t167) ++ (⟨#[32]⟩:ByteArray)) ++ t169).size + 1 ≤ 9223372036854775807 then (some (((((⟨#[40]⟩:ByteArray) ++ t167) ++ (⟨#[32]⟩:ByteArray)) ++ t169) ++ (⟨#[41]⟩:ByteArray))) else (none)) else (none))) else (none)) else (none)) else (none))) else (none)) else (if a0_0 = 2 then (if 1 < (l0_2.length:Int) then ((impl_sealText.f k ((rd_T25 l0_2 1).f0) ((rd_T25 l0_2 1).f1) ((rd_T25 l0_2 1).f2)).bind fun t171=>(if 1 + t171.size ≤ 9223372036854775807 then (if ((⟨#[123]⟩:ByteArray) ++ t171).size + 1 ≤ 9223372036854775807 then (if 0 < (l0_2.length:Int) then ((impl_sealText.f k ((rd_T25 l0_2 0).f0) ((rd_T25 l0_2 0).f1) ((rd_T25 l0_2 0).f2)).bind fun t173=>(if (((⟨#[123]⟩:ByteArray) ++ t171) ++ (⟨#[125]⟩:ByteArray)).size + t173.size ≤ 9223372036854775807 then (some ((((⟨#[123]⟩:ByteArray) ++ t171) ++ (⟨#[125]⟩:ByteArray)) ++ t173)) else (none))) else (none)) else (none)) else (none))) else (none)) else ((strconv_Itoa_59.f a0_1).bind fun t174=>(if 1 + t174.size ≤ 9223372036854775807 then (some ((⟨#[109]⟩:ByteArray) ++ t174)) else (none))))
theorem impl_sealText.mono_l:∀ k,(∀ y0 y1 y2,LeO (impl_sealText.f k y0 y1 y2) (impl_sealText.f (k + 1) y0 y1 y2))
 | 0=>fun _ _ _ r h=>by simp [impl_sealText.f] at h
 | k + 1=>by
  have ih0:=impl_sealText.mono_l k
  ·intro y0 y1 y2
   unfold impl_sealText.f
   repeat' first
   | (with_reducible exact ih0 _ _ _)
   | (with_reducible exact LeO.refl _)
   | (with_reducible exact LeO.none _)
   | (with_reducible refine LeO.ite ?_ ?_)
   | (with_reducible refine LeO.bind ?_ (fun _=>?_))
   | exact ih0 _ _ _
   | exact LeO.none _
   | refine LeO.ite ?_ ?_
   | refine LeO.bind ?_ (fun _=>?_)
theorem impl_sealText.mono:∀ a0 a1 a2 k,LeO (impl_sealText.f k a0 a1 a2) (impl_sealText.f (k + 1) a0 a1 a2):=by
 intro a0 a1 a2 k
 have ih0:=impl_sealText.mono_l k
 exact ih0 a0 a1 a2
def impl_sealText.T3:Bool × List (List Nat × List Nat):=(true,[([],[]),([0],[0]),([1],[1]),([2],[2]),([3],[3]),([4],[4]),([5],[5]),([],[]),([7],[7]),([8],[8]),([9],[9]),([10,4],[10]),([6,11],[6,11]),([12],[12]),([13,11,0,1,2,3,4,5,6,7,8,9,10,11,12,13],[13])])
def impl_sealText.B3:List Nat:=[0,1,3,7,15,31,63,0,128,384,896,1951,4095,8191,16383]
theorem impl_sealText.tab3:rtab .any (opsOf Tryd.f46 3) = impl_sealText.T3:=by kernel_rfl
theorem impl_sealText.bits3:waitsOk impl_sealText.T3.2 impl_sealText.B3 = true:=by kernel_rfl
def impl_sealText.T5:Bool × List (List Nat × List Nat):=(true,[([],[]),([0],[0]),([1],[1]),([2],[2]),([3],[3]),([4],[4]),([5],[5]),([],[]),([7],[7]),([8],[8]),([9],[9]),([10,4],[10]),([6,11],[6,11]),([12,11,0,1,2,3,4,5,6,7,8,9,10,11,12],[12])])
def impl_sealText.B5:List Nat:=[0,1,3,7,15,31,63,0,128,384,896,1951,4095,8191]
theorem impl_sealText.tab5:rtab .any (opsOf Tryd.f46 5) = impl_sealText.T5:=by kernel_rfl
theorem impl_sealText.bits5:waitsOk impl_sealText.T5.2 impl_sealText.B5 = true:=by kernel_rfl
set_option maxHeartbeats 8000000 in
set_option maxRecDepth 100000 in
theorem impl_sealText.calls (k:Nat):∀ (a0_0:Int) (a0_1:Int) (A0_2:Option Addr) (c0_2:Nat) (l0_2:List (S25)) (r:ByteArray) (w:World) (hr0_2:Kd.C k25 w A0_2 l0_2.length l0_2) (hc0_2:l0_2.length ≤ c0_2) (h:impl_sealText.f k a0_0 a0_1 l0_2 = some r),
  Calls Tryd.prog 46 #[.agg #[.int .i64 a0_0,.int .i64 a0_1,.slice A0_2 l0_2.length c0_2]] w fun e w'=>e = .returned (.string r)∧Below w.heap.size w w':=by
 induction k using Nat.strongRecOn with
 | _ k ih =>
 intro a0_0 a0_1 A0_2 c0_2 l0_2 r w hr0_2 hc0_2 h
 cases k with
 | zero=>exact absurd h (by simp [impl_sealText.f])
 | succ k =>
 simp only [impl_sealText.f] at h
 have hu25:=Tryd.underlying25
 have HR0_2:=Aside0.mk hr0_2
 have HC0_2:=Aside0.mk hc0_2
 clear hr0_2 hc0_2
 have HB:=Aside0.mk (Below.refl w.heap.size w)
 have H:(if a0_0 = 1 then (if 0 < (l0_2.length:Int) then ((impl_sealText.f k ((rd_T25 l0_2 0).f0) ((rd_T25 l0_2 0).f1) ((rd_T25 l0_2 0).f2)).bind fun t167=>(if 1 + t167.size ≤ 9223372036854775807 then (if ((⟨#[40]⟩:ByteArray) ++ t167).size + 1 ≤ 9223372036854775807 then (if 1 < (l0_2.length:Int) then ((impl_sealText.f k ((rd_T25 l0_2 1).f0) ((rd_T25 l0_2 1).f1) ((rd_T25 l0_2 1).f2)).bind fun t169=>(if (((⟨#[40]⟩:ByteArray) ++ t167) ++ (⟨#[32]⟩:ByteArray)).size + t169.size ≤ 9223372036854775807 then (if ((((⟨#[40]⟩:ByteArray) ++ t167) ++ (⟨#[32]⟩:ByteArray)) ++ t169).size + 1 ≤ 9223372036854775807 then (some (((((⟨#[40]⟩:ByteArray) ++ t167) ++ (⟨#[32]⟩:ByteArray)) ++ t169) ++ (⟨#[41]⟩:ByteArray))) else (none)) else (none))) else (none)) else (none)) else (none))) else (none)) else (if a0_0 = 2 then (if 1 < (l0_2.length:Int) then ((impl_sealText.f k ((rd_T25 l0_2 1).f0) ((rd_T25 l0_2 1).f1) ((rd_T25 l0_2 1).f2)).bind fun t171=>(if 1 + t171.size ≤ 9223372036854775807 then (if ((⟨#[123]⟩:ByteArray) ++ t171).size + 1 ≤ 9223372036854775807 then (if 0 < (l0_2.length:Int) then ((impl_sealText.f k ((rd_T25 l0_2 0).f0) ((rd_T25 l0_2 0).f1) ((rd_T25 l0_2 0).f2)).bind fun t173=>(if (((⟨#[123]⟩:ByteArray) ++ t171) ++ (⟨#[125]⟩:ByteArray)).size + t173.size ≤ 9223372036854775807 then (some ((((⟨#[123]⟩:ByteArray) ++ t171) ++ (⟨#[125]⟩:ByteArray)) ++ t173)) else (none))) else (none)) else (none)) else (none))) else (none)) else ((strconv_Itoa_59.f a0_1).bind fun t174=>(if 1 + t174.size ≤ 9223372036854775807 then (some ((⟨#[109]⟩:ByteArray) ++ t174)) else (none))))) = some r:=h
 clear h
 by_cases c2:a0_0 = 1
 ·rw [if_pos c2] at H
  have c2b0:(a0_0 == 1) = true:=beq_iff_eq.mpr c2
  have c2b1:(a0_0 != 1) = false:=bne_eq_false_iff_eq.mpr c2
  clear c2
  by_cases c3:0 < (l0_2.length:Int)
  ·rw [if_pos c3] at H
   have c3b0:decide (0 < (l0_2.length:Int)) = true:=decide_eq_true c3
   have c3b1:decide (0 < l0_2.length) = true:=decide_eq_true (by omega)
   clear c3
   replace H:=Option.bind_eq_some_iff.mp H
   obtain ⟨t167,A40,H⟩:=H
   replace H:(if 1 + t167.size ≤ 9223372036854775807 then (if ((⟨#[40]⟩:ByteArray) ++ t167).size + 1 ≤ 9223372036854775807 then (if 1 < (l0_2.length:Int) then ((impl_sealText.f k ((rd_T25 l0_2 1).f0) ((rd_T25 l0_2 1).f1) ((rd_T25 l0_2 1).f2)).bind fun t169=>(if (((⟨#[40]⟩:ByteArray) ++ t167) ++ (⟨#[32]⟩:ByteArray)).size + t169.size ≤ 9223372036854775807 then (if ((((⟨#[40]⟩:ByteArray) ++ t167) ++ (⟨#[32]⟩:ByteArray)) ++ t169).size + 1 ≤ 9223372036854775807 then (some (((((⟨#[40]⟩:ByteArray) ++ t167) ++ (⟨#[32]⟩:ByteArray)) ++ t169) ++ (⟨#[41]⟩:ByteArray))) else (none)) else (none))) else (none)) else (none)) else (none)) = some r:=H
   have A4:=Aside0.mk A40
   clear A40
   by_cases c5:1 + t167.size ≤ 9223372036854775807
   ·rw [if_pos c5] at H
    have c5b0:=eq_true c5
    have c5b1:decide (1 + t167.size ≤ 9223372036854775807) = true:=decide_eq_true c5
    try have c5b2:(9223372036854775807 < 1 + t167.size) = False:=eq_false (Nat.not_lt.2 c5)
    by_cases c6:((⟨#[40]⟩:ByteArray) ++ t167).size + 1 ≤ 9223372036854775807
    ·rw [if_pos c6] at H
     have c6b0:=eq_true c6
     have c6b1:decide (((⟨#[40]⟩:ByteArray) ++ t167).size + 1 ≤ 9223372036854775807) = true:=decide_eq_true c6
     try have c6b2:(9223372036854775807 < ((⟨#[40]⟩:ByteArray) ++ t167).size + 1) = False:=eq_false (Nat.not_lt.2 c6)
     try (have c6b3:=c6b2;simp only [ByteArray.size_append,show (⟨#[40]⟩:ByteArray).size = 1 from rfl] at c6b3)
     by_cases c7:1 < (l0_2.length:Int)
     ·rw [if_pos c7] at H
      have c7b0:decide (1 < (l0_2.length:Int)) = true:=decide_eq_true c7
      have c7b1:decide (1 < l0_2.length) = true:=decide_eq_true (by omega)
      clear c7
      replace H:=Option.bind_eq_some_iff.mp H
      obtain ⟨t169,A80,H⟩:=H
      replace H:(if (((⟨#[40]⟩:ByteArray) ++ t167) ++ (⟨#[32]⟩:ByteArray)).size + t169.size ≤ 9223372036854775807 then (if ((((⟨#[40]⟩:ByteArray) ++ t167) ++ (⟨#[32]⟩:ByteArray)) ++ t169).size + 1 ≤ 9223372036854775807 then (some (((((⟨#[40]⟩:ByteArray) ++ t167) ++ (⟨#[32]⟩:ByteArray)) ++ t169) ++ (⟨#[41]⟩:ByteArray))) else (none)) else (none)) = some r:=H
      have A8:=Aside0.mk A80
      clear A80
      by_cases c9:(((⟨#[40]⟩:ByteArray) ++ t167) ++ (⟨#[32]⟩:ByteArray)).size + t169.size ≤ 9223372036854775807
      ·rw [if_pos c9] at H
       have c9b0:=eq_true c9
       have c9b1:decide ((((⟨#[40]⟩:ByteArray) ++ t167) ++ (⟨#[32]⟩:ByteArray)).size + t169.size ≤ 9223372036854775807) = true:=decide_eq_true c9
       try have c9b2:(9223372036854775807 < (((⟨#[40]⟩:ByteArray) ++ t167) ++ (⟨#[32]⟩:ByteArray)).size + t169.size) = False:=eq_false (Nat.not_lt.2 c9)
       try (have c9b3:=c9b2;simp only [ByteArray.size_append,show (⟨#[32]⟩:ByteArray).size = 1 from rfl,show (⟨#[40]⟩:ByteArray).size = 1 from rfl] at c9b3)
       by_cases c10:((((⟨#[40]⟩:ByteArray) ++ t167) ++ (⟨#[32]⟩:ByteArray)) ++ t169).size + 1 ≤ 9223372036854775807
       ·rw [if_pos c10] at H
        have c10b0:=eq_true c10
        have c10b1:decide (((((⟨#[40]⟩:ByteArray) ++ t167) ++ (⟨#[32]⟩:ByteArray)) ++ t169).size + 1 ≤ 9223372036854775807) = true:=decide_eq_true c10
        try have c10b2:(9223372036854775807 < ((((⟨#[40]⟩:ByteArray) ++ t167) ++ (⟨#[32]⟩:ByteArray)) ++ t169).size + 1) = False:=eq_false (Nat.not_lt.2 c10)
        try (have c10b3:=c10b2;simp only [ByteArray.size_append,show (⟨#[32]⟩:ByteArray).size = 1 from rfl,show (⟨#[40]⟩:ByteArray).size = 1 from rfl] at c10b3)
        obtain rfl:=Option.some.inj H
        go_enter Tryd.func46,Tryd.ntmps46
        try go_wp2_with (first | ((with_reducible refine gate_dst (N:=1) rfl ?_);refine box_event ?hg (N:=1) ?hd (cs:=#[.int .i64 a0_0,.int .i64 a0_1,.slice A0_2 l0_2.length c0_2]) (t:=25) ?hr ?_;(case hd=>rfl);(case hg=>rfl);(case hr=>first | (go_simp;done) | (go_simp;rfl));intro gb165 hg w11 hbox hb;have n0_:=Aside0.mk (below_step (by repeat (first | (with_reducible first | exact HB.out | apply below_alloc | apply pw_below_drewN | apply below_drew1) | exact HB.out)) hb);have n1_:=Aside0.mk (hbox);have n2_:=Aside0.mk ((by rw [hg];exact (below_size (by repeat (first | (with_reducible first | exact HB.out | apply below_alloc | apply pw_below_drewN | apply below_drew1) | exact HB.out))):w.heap.size ≤ gb165));have n3_:=Aside0.mk ((by rw [hg];exact (below_size (by repeat (first | (with_reducible first | exact HB.out | apply below_alloc | apply pw_below_drewN | apply below_drew1) | exact HB.out))):w.heap.size ≤ gb165));clear HB;have HB:=n0_;have BK165:=n1_;have GW165:=n2_;have GE165:=n3_;clear n0_ n1_ n2_ n3_;clear hb hbox hg;have hcz12_0:w11.cell? ⟨gb165,0,none⟩ = some (.int .i64 a0_0):=(blk_cell BK165.out 0).trans rfl;have hcz12_1:w11.cell? ⟨gb165,1,none⟩ = some (.int .i64 a0_1):=(blk_cell BK165.out 1).trans rfl;have hcz12_2:w11.cell? ⟨gb165,2,none⟩ = some (.slice A0_2 l0_2.length c0_2):=(blk_cell BK165.out 2).trans rfl;have hfz12_0:=blk_frozen BK165.out 0;have hfz12_1:=blk_frozen BK165.out 1;have hfz12_2:=blk_frozen BK165.out 2))
        have n0_:=Aside0.mk (blk_drew BK165.out)
        have n1_:=Aside0.mk (below_drew1 HB.out)
        clear BK165
        clear HB
        have BK165:=n0_
        have HB:=n1_
        clear n0_ n1_
        have p166:0 ≤ (0:Int):=(by omega)
        have q166:0 < (l0_2.length:Int):=of_decide_eq_true (by first | (with_reducible assumption) | assumption)
        obtain ⟨ad166,A166_2,c166_2,e166,hx166_0,hx166_1,hx166_2,hl166_2,hi166_2⟩:=at_T25 HR0_2.out 0 p166 q166
        have hw166_2:=hx166_2
        (try rw [show ((0:Int)).toNat = 0 from rfl] at hw166_2)
        (try rw [show 0 * 3 = 0 from rfl] at hw166_2)
        (try rw [Addr.add_zero'] at hw166_2)
        have hw166_1:=hx166_1
        (try rw [show ((0:Int)).toNat = 0 from rfl] at hw166_1)
        (try rw [show 0 * 3 = 0 from rfl] at hw166_1)
        (try rw [Addr.add_zero'] at hw166_1)
        have hw166_0:=hx166_0
        (try rw [show ((0:Int)).toNat = 0 from rfl] at hw166_0)
        (try rw [show 0 * 3 = 0 from rfl] at hw166_0)
        (try rw [Addr.add_zero'] at hw166_0)
        cases e166
        have qi166:(0 < l0_2.length) = True:=eq_true (by omega)
        (try rw [show ((0:Int)).toNat = 0 from rfl] at hx166_0)
        (try rw [show 0 * 3 = 0 from rfl] at hx166_0)
        (try rw [Addr.add_zero'] at hx166_0)
        (try rw [show ((0:Int)).toNat = 0 from rfl] at hx166_1)
        (try rw [show 0 * 3 = 0 from rfl] at hx166_1)
        (try rw [Addr.add_zero'] at hx166_1)
        (try rw [show ((0:Int)).toNat = 0 from rfl] at hx166_2)
        (try rw [show 0 * 3 = 0 from rfl] at hx166_2)
        (try rw [Addr.add_zero'] at hx166_2)
        replace hx166_0:=(HB.out.cell (World.block_lt_of_cell? w _ hx166_0)).trans hx166_0
        replace hx166_1:=(HB.out.cell (World.block_lt_of_cell? w _ hx166_1)).trans hx166_1
        replace hx166_2:=(HB.out.cell (World.block_lt_of_cell? w _ hx166_2)).trans hx166_2
        have HR166_2:=Aside0.mk hi166_2
        have HC166_2:=Aside0.mk hl166_2
        clear hi166_2 hl166_2
        replace p166:=eq_true p166
        replace q166:=eq_true q166
        have p168:0 ≤ (1:Int):=(by omega)
        have q168:1 < (l0_2.length:Int):=of_decide_eq_true (by first | (with_reducible assumption) | assumption)
        obtain ⟨ad168,A168_2,c168_2,e168,hx168_0,hx168_1,hx168_2,hl168_2,hi168_2⟩:=at_T25 HR0_2.out 1 p168 q168
        have hw168_2:=hx168_2
        (try rw [show ((1:Int)).toNat = 1 from rfl] at hw168_2)
        (try rw [show 1 * 3 = 3 from rfl] at hw168_2)
        (try simp only [Nat.reduceMul,Nat.reduceEqDiff,Go.Addr.add,↓reduceIte] at hw168_2)
        have hw168_1:=hx168_1
        (try rw [show ((1:Int)).toNat = 1 from rfl] at hw168_1)
        (try rw [show 1 * 3 = 3 from rfl] at hw168_1)
        (try simp only [Nat.reduceMul,Nat.reduceEqDiff,Go.Addr.add,↓reduceIte] at hw168_1)
        have hw168_0:=hx168_0
        (try rw [show ((1:Int)).toNat = 1 from rfl] at hw168_0)
        (try rw [show 1 * 3 = 3 from rfl] at hw168_0)
        (try simp only [Nat.reduceMul,Nat.reduceEqDiff,Go.Addr.add,↓reduceIte] at hw168_0)
        obtain rfl:ad166 = ad168:=(by injection e168)
        (try simp only [show (1:Int).toNat = 1 from rfl,Nat.reduceMul,Nat.reduceEqDiff,Go.Addr.add,↓reduceIte] at hx168_0)
        (try simp only [show (1:Int).toNat = 1 from rfl,Nat.reduceMul,Nat.reduceEqDiff,Go.Addr.add,↓reduceIte] at hx168_1)
        (try simp only [show (1:Int).toNat = 1 from rfl,Nat.reduceMul,Nat.reduceEqDiff,Go.Addr.add,↓reduceIte] at hx168_2)
        have qi168:(1 < l0_2.length) = True:=eq_true (by omega)
        (try rw [show ((1:Int)).toNat = 1 from rfl] at hx168_0)
        (try rw [show 1 * 3 = 3 from rfl] at hx168_0)
        (try rw [show ((1:Int)).toNat = 1 from rfl] at hx168_1)
        (try rw [show 1 * 3 = 3 from rfl] at hx168_1)
        (try rw [show ((1:Int)).toNat = 1 from rfl] at hx168_2)
        (try rw [show 1 * 3 = 3 from rfl] at hx168_2)
        replace hx168_0:=(HB.out.cell (World.block_lt_of_cell? w _ hx168_0)).trans hx168_0
        replace hx168_1:=(HB.out.cell (World.block_lt_of_cell? w _ hx168_1)).trans hx168_1
        replace hx168_2:=(HB.out.cell (World.block_lt_of_cell? w _ hx168_2)).trans hx168_2
        have HR168_2:=Aside0.mk hi168_2
        have HC168_2:=Aside0.mk hl168_2
        clear hi168_2 hl168_2
        replace p168:=eq_true p168
        replace q168:=eq_true q168
        refine start_ (n:=15) (S:=fun w'=>w'.cell? ⟨gb165,0,none⟩ = some (.int .i64 a0_0)∧w'.cell? ⟨gb165,1,none⟩ = some (.int .i64 a0_1)∧w'.cell? ⟨gb165,2,none⟩ = some (.slice (some ad166) l0_2.length c0_2)∧w'.cell? ad166 = some (.int .i64 ((rd_T25 l0_2 0).f0))∧w'.cell? ⟨ad166.block,ad166.off + 1,none⟩ = some (.int .i64 ((rd_T25 l0_2 0).f1))∧w'.cell? ⟨ad166.block,ad166.off + 2,none⟩ = some (.slice A166_2 ((rd_T25 l0_2 0).f2).length c166_2)∧w'.cell? ⟨ad166.block,ad166.off + 3,none⟩ = some (.int .i64 ((rd_T25 l0_2 1).f0))∧w'.cell? ⟨ad166.block,ad166.off + 3 + 1,none⟩ = some (.int .i64 ((rd_T25 l0_2 1).f1))∧w'.cell? ⟨ad166.block,ad166.off + 3 + 2,none⟩ = some (.slice A168_2 ((rd_T25 l0_2 1).f2).length c168_2)) (ds:=[]) #[false,false,false,false,false,false,false,false,false,false,false,false,false,false,false] (by kernel_rfl) rfl rfl ⟨(blk_cell BK165.out 0).trans rfl,(blk_cell BK165.out 1).trans rfl,(blk_cell BK165.out 2).trans rfl,((HB.out.cell (World.block_lt_of_cell? w _ hw166_0)).trans hw166_0),((HB.out.cell (World.block_lt_of_cell? w _ hw166_1)).trans hw166_1),((HB.out.cell (World.block_lt_of_cell? w _ hw166_2)).trans hw166_2),((HB.out.cell (World.block_lt_of_cell? w _ hw168_0)).trans hw168_0),((HB.out.cell (World.block_lt_of_cell? w _ hw168_1)).trans hw168_1),((HB.out.cell (World.block_lt_of_cell? w _ hw168_2)).trans hw168_2)⟩ (fun hHeld=>?_);refine with_tabW impl_sealText.tab3 impl_sealText.bits3 (fun HT_ HW_=>?_)
        generalize w11.drew = w13 at BK165 HB HR166_2 HR168_2 hx166_0 hx166_1 hx166_2 hx168_0 hx168_1 hx168_2 hHeld ⊢
        refine pure_ (i:=0) (N:=some 7) (v:=?_) (a':=?_) #[true,false,false,false,false,false,false,false,false,false,false,false,false,false,false] rfl rfl (any_of HT_.out (by kernel_rfl)) (fun _ _ _ h=>h) (Or.inl ⟨by rfl,?_⟩) ?_ ?_
        rotate_left;·intro w';go_simp;with_reducible rfl
        rotate_left;·simp only [Act.put,List.setIfInBounds_toArray,List.set_cons_zero,List.set_cons_succ,i64_w,i32_w];rfl
        refine pure_ (i:=7) (N:=some 14) (v:=?_) (a':=?_) #[true,false,false,false,false,false,false,true,false,false,false,false,false,false,false] rfl rfl (any_of HT_.out (by kernel_rfl)) (fun _ _ _ h=>h) (Or.inl ⟨by rfl,?_⟩) ?_ ?_
        rotate_left;·intro w';go_simp;with_reducible rfl
        rotate_left;·simp only [Act.put,List.setIfInBounds_toArray,List.set_cons_zero,List.set_cons_succ,i64_w,i32_w];rfl
        refine take_ (i:=1) (N:=some 8) (v:=?_) (a':=?_) #[true,true,false,false,false,false,false,true,false,false,false,false,false,false,false] rfl rfl (take_ofW HT_.out HW_.out (by kernel_rfl)) (fun _ _ _ h=>h) (Or.inl ⟨by rfl,?_⟩) hHeld ?_ ?_
        rotate_left;·rintro w' ⟨s0,s1,s2,s3,s4,s5,s6,s7,s8⟩;go_simp;with_reducible rfl
        rotate_left;·simp only [Act.put,List.setIfInBounds_toArray,List.set_cons_zero,List.set_cons_succ,i64_w,i32_w];rfl
        refine pure_ (i:=2) (N:=some 9) (v:=?_) (a':=?_) #[true,true,true,false,false,false,false,true,false,false,false,false,false,false,false] rfl rfl (any_of HT_.out (by kernel_rfl)) (fun _ _ _ h=>h) (Or.inl ⟨by rfl,?_⟩) ?_ ?_
        rotate_left;·intro w';go_simp;with_reducible rfl
        rotate_left;·simp only [Act.put,List.setIfInBounds_toArray,List.set_cons_zero,List.set_cons_succ,i64_w,i32_w];rfl
        refine take_ (i:=3) (N:=some 10) (v:=?_) (a':=?_) #[true,true,true,true,false,false,false,true,false,false,false,false,false,false,false] rfl rfl (take_ofW HT_.out HW_.out (by kernel_rfl)) (fun _ _ _ h=>h) (Or.inl ⟨by rfl,?_⟩) hHeld ?_ ?_
        rotate_left;·rintro w' ⟨s0,s1,s2,s3,s4,s5,s6,s7,s8⟩;go_simp;with_reducible rfl
        rotate_left;·simp only [Act.put,List.setIfInBounds_toArray,List.set_cons_zero,List.set_cons_succ,i64_w,i32_w];rfl
        refine take_ (i:=8) (N:=some 15) (v:=?_) (a':=?_) #[true,true,true,true,false,false,false,true,true,false,false,false,false,false,false] rfl rfl (take_ofW HT_.out HW_.out (by kernel_rfl)) (fun _ _ _ h=>h) (Or.inl ⟨by rfl,?_⟩) hHeld ?_ ?_
        rotate_left;·rintro w' ⟨s0,s1,s2,s3,s4,s5,s6,s7,s8⟩;go_simp;with_reducible rfl
        rotate_left;·simp only [Act.put,List.setIfInBounds_toArray,List.set_cons_zero,List.set_cons_succ,i64_w,i32_w];rfl
        refine pure_ (i:=9) (N:=some 16) (v:=?_) (a':=?_) #[true,true,true,true,false,false,false,true,true,true,false,false,false,false,false] rfl rfl (any_of HT_.out (by kernel_rfl)) (fun _ _ _ h=>h) (Or.inl ⟨by rfl,?_⟩) ?_ ?_
        rotate_left;·intro w';go_simp;with_reducible rfl
        rotate_left;·simp only [Act.put,List.setIfInBounds_toArray,List.set_cons_zero,List.set_cons_succ,i64_w,i32_w];rfl
        refine take_ (i:=10) (N:=some 17) (v:=?_) (a':=?_) #[true,true,true,true,false,false,false,true,true,true,true,false,false,false,false] rfl rfl (take_ofW HT_.out HW_.out (by kernel_rfl)) (fun _ _ _ h=>h) (Or.inl ⟨by rfl,?_⟩) hHeld ?_ ?_
        rotate_left;·rintro w' ⟨s0,s1,s2,s3,s4,s5,s6,s7,s8⟩;go_simp;with_reducible rfl
        rotate_left;·simp only [Act.put,List.setIfInBounds_toArray,List.set_cons_zero,List.set_cons_succ,i64_w,i32_w];rfl
        refine one_ (i:=4) (N:=some 11) #[true,true,true,true,true,false,false,true,true,true,true,false,false,false,false] rfl rfl (one_of HT_.out (by kernel_rfl)) (by decide) (fun K hK=>?_)
        refine goes_ Tryd.func46 (by kernel_rfl) rfl #[.agg #[.int .i64 ((rd_T25 l0_2 0).f0),.int .i64 ((rd_T25 l0_2 0).f1),.slice A166_2 ((rd_T25 l0_2 0).f2).length c166_2]] (by rfl) rfl rfl (by (try simp only [List.map_toArray,List.map_cons,List.map_nil]);first | done | rfl | (simp only [List.length_drop,List.length_take];rfl)) ?_
        with_reducible refine (ih k (by omega) ((rd_T25 l0_2 0).f0) ((rd_T25 l0_2 0).f1) _ _ ((rd_T25 l0_2 0).f2) t167 _ ?side1 ?side2 A4.out).mono ?_
        (case side1=>repeat (first | exact (Kd.C_below HR166_2.out HB.out) | (with_reducible refine Kd.C_alloc ?_ _) | (with_reducible refine Kd.C_drewN ?_ _) | (with_reducible refine Kd.C_drew ?_)))
        (case side2=>exact HC166_2.out)
        rintro e w14 ⟨rfl,hb⟩
        refine ⟨_,rfl,?_⟩
        have n0_:=Aside0.mk (blk_below (g:=gb165) (o:=.cells #[.int .i64 a0_0,.int .i64 a0_1,.slice (some ad166) l0_2.length c0_2] 25 (0,0)) (by (with_reducible repeat (first | refine blk_drewN ?_ _ | refine blk_drew ?_ | refine blk_alloc ?_ _));exact BK165.out) hb)
        have n1_:=Aside0.mk (below_step (by repeat (first | (with_reducible first | exact HB.out | apply below_alloc | apply pw_below_drewN | apply below_drew1 | refine below_set ?_ GE165.out) | exact HB.out)) hb)
        clear BK165
        clear HB
        have BK165:=n0_
        have HB:=n1_
        clear n0_ n1_
        (try clear hb)
        (try clear hb2)
        (try clear hk)
        (try clear hi)
        refine hK.out _ _ ⟨(blk_cell BK165.out 0).trans rfl,(blk_cell BK165.out 1).trans rfl,(blk_cell BK165.out 2).trans rfl,((HB.out.cell (World.block_lt_of_cell? w _ hw166_0)).trans hw166_0),((HB.out.cell (World.block_lt_of_cell? w _ hw166_1)).trans hw166_1),((HB.out.cell (World.block_lt_of_cell? w _ hw166_2)).trans hw166_2),((HB.out.cell (World.block_lt_of_cell? w _ hw168_0)).trans hw168_0),((HB.out.cell (World.block_lt_of_cell? w _ hw168_1)).trans hw168_1),((HB.out.cell (World.block_lt_of_cell? w _ hw168_2)).trans hw168_2)⟩ (fun hHeld=>?_)
        clear hK K
        refine norm_ (a':=?_) ?_ ?_
        rotate_left
        ·show Act.put _ (some 11) _ = _
         simp only [Act.put,List.setIfInBounds_toArray,List.set_cons_zero,List.set_cons_succ,i64_w,i32_w]
         rfl
        refine pure_ (i:=5) (N:=some 12) (v:=?_) (a':=?_) #[true,true,true,true,true,true,false,true,true,true,true,false,false,false,false] rfl rfl (any_of HT_.out (by kernel_rfl)) (fun _ _ _ h=>h) (Or.inl ⟨by rfl,?_⟩) ?_ ?_
        rotate_left;·intro w';go_simp;with_reducible rfl
        rotate_left;·simp only [Act.put,List.setIfInBounds_toArray,List.set_cons_zero,List.set_cons_succ,i64_w,i32_w];rfl
        refine pure_ (i:=6) (N:=some 13) (v:=?_) (a':=?_) #[true,true,true,true,true,true,true,true,true,true,true,false,false,false,false] rfl rfl (any_of HT_.out (by kernel_rfl)) (fun _ _ _ h=>h) (Or.inl ⟨by rfl,?_⟩) ?_ ?_
        rotate_left;·intro w';go_simp;with_reducible rfl
        rotate_left;·simp only [Act.put,List.setIfInBounds_toArray,List.set_cons_zero,List.set_cons_succ,i64_w,i32_w];rfl
        refine one_ (i:=11) (N:=some 18) #[true,true,true,true,true,true,true,true,true,true,true,true,false,false,false] rfl rfl (one_of HT_.out (by kernel_rfl)) (by decide) (fun K hK=>?_)
        refine goes_ Tryd.func46 (by kernel_rfl) rfl #[.agg #[.int .i64 ((rd_T25 l0_2 1).f0),.int .i64 ((rd_T25 l0_2 1).f1),.slice A168_2 ((rd_T25 l0_2 1).f2).length c168_2]] (by rfl) rfl rfl (by (try simp only [List.map_toArray,List.map_cons,List.map_nil]);first | done | rfl | (simp only [List.length_drop,List.length_take];rfl)) ?_
        with_reducible refine (ih k (by omega) ((rd_T25 l0_2 1).f0) ((rd_T25 l0_2 1).f1) _ _ ((rd_T25 l0_2 1).f2) t169 _ ?side1 ?side2 A8.out).mono ?_
        (case side1=>repeat (first | exact (Kd.C_below HR168_2.out HB.out) | (with_reducible refine Kd.C_alloc ?_ _) | (with_reducible refine Kd.C_drewN ?_ _) | (with_reducible refine Kd.C_drew ?_)))
        (case side2=>exact HC168_2.out)
        rintro e w15 ⟨rfl,hb⟩
        refine ⟨_,rfl,?_⟩
        have n0_:=Aside0.mk (blk_below (g:=gb165) (o:=.cells #[.int .i64 a0_0,.int .i64 a0_1,.slice (some ad166) l0_2.length c0_2] 25 (0,0)) (by (with_reducible repeat (first | refine blk_drewN ?_ _ | refine blk_drew ?_ | refine blk_alloc ?_ _));exact BK165.out) hb)
        have n1_:=Aside0.mk (below_step (by repeat (first | (with_reducible first | exact HB.out | apply below_alloc | apply pw_below_drewN | apply below_drew1 | refine below_set ?_ GE165.out) | exact HB.out)) hb)
        clear BK165
        clear HB
        have BK165:=n0_
        have HB:=n1_
        clear n0_ n1_
        (try clear hb)
        (try clear hb2)
        (try clear hk)
        (try clear hi)
        refine hK.out _ _ ⟨(blk_cell BK165.out 0).trans rfl,(blk_cell BK165.out 1).trans rfl,(blk_cell BK165.out 2).trans rfl,((HB.out.cell (World.block_lt_of_cell? w _ hw166_0)).trans hw166_0),((HB.out.cell (World.block_lt_of_cell? w _ hw166_1)).trans hw166_1),((HB.out.cell (World.block_lt_of_cell? w _ hw166_2)).trans hw166_2),((HB.out.cell (World.block_lt_of_cell? w _ hw168_0)).trans hw168_0),((HB.out.cell (World.block_lt_of_cell? w _ hw168_1)).trans hw168_1),((HB.out.cell (World.block_lt_of_cell? w _ hw168_2)).trans hw168_2)⟩ (fun hHeld=>?_)
        clear hK K
        refine norm_ (a':=?_) ?_ ?_
        rotate_left
        ·show Act.put _ (some 18) _ = _
         simp only [Act.put,List.setIfInBounds_toArray,List.set_cons_zero,List.set_cons_succ,i64_w,i32_w]
         rfl
        refine pure_ (i:=12) (N:=some 19) (v:=?_) (a':=?_) #[true,true,true,true,true,true,true,true,true,true,true,true,true,false,false] rfl rfl (any_of HT_.out (by kernel_rfl)) (fun _ _ _ h=>h) (Or.inl ⟨by rfl,?_⟩) ?_ ?_
        rotate_left;·intro w';go_simp;with_reducible rfl
        rotate_left;·simp only [Act.put,List.setIfInBounds_toArray,List.set_cons_zero,List.set_cons_succ,i64_w,i32_w];rfl
        refine pure_ (i:=13) (N:=some 20) (v:=?_) (a':=?_) #[true,true,true,true,true,true,true,true,true,true,true,true,true,true,false] rfl rfl (any_of HT_.out (by kernel_rfl)) (fun _ _ _ h=>h) (Or.inl ⟨by rfl,?_⟩) ?_ ?_
        rotate_left;·intro w';go_simp;with_reducible rfl
        rotate_left;·simp only [Act.put,List.setIfInBounds_toArray,List.set_cons_zero,List.set_cons_succ,i64_w,i32_w];rfl
        refine pure_ (i:=14) (N:=some 2) (v:=?_) (a':=?_) #[true,true,true,true,true,true,true,true,true,true,true,true,true,true,true] rfl rfl (any_of HT_.out (by kernel_rfl)) (fun _ _ _ h=>h) (Or.inl ⟨by rfl,?_⟩) ?_ ?_
        rotate_left;·intro w';go_simp;with_reducible rfl
        rotate_left;·simp only [Act.put,List.setIfInBounds_toArray,List.set_cons_zero,List.set_cons_succ,i64_w,i32_w];rfl
        refine done_ (done_of HT_.out (by kernel_rfl)) ?_
        try go_wp2
        go_ret
        exact ⟨by first | rfl | (simp [errW_none,errW_some] <;> rfl) | (simp [*,errW_none,errW_some] <;> rfl),by repeat (first | (with_reducible first | exact HB.out | apply below_alloc | apply pw_below_drewN | apply below_drew1 | refine below_set ?_ GE165.out) | exact HB.out)⟩
       ·rw [if_neg c10] at H
        exact absurd H (by simp)
      ·rw [if_neg c9] at H
       exact absurd H (by simp)
     ·rw [if_neg c7] at H
      exact absurd H (by simp)
    ·rw [if_neg c6] at H
     exact absurd H (by simp)
   ·rw [if_neg c5] at H
    exact absurd H (by simp)
  ·rw [if_neg c3] at H
   exact absurd H (by simp)
 ·rw [if_neg c2] at H
  have c2b0:(a0_0 == 1) = false:=beq_eq_false_iff_ne.mpr c2
  have c2b1:(a0_0 != 1) = true:=bne_iff_ne.mpr c2
  by_cases c16:a0_0 = 2
  ·rw [if_pos c16] at H
   have c16b0:(a0_0 == 2) = true:=beq_iff_eq.mpr c16
   have c16b1:(a0_0 != 2) = false:=bne_eq_false_iff_eq.mpr c16
   clear c16
   by_cases c17:1 < (l0_2.length:Int)
   ·rw [if_pos c17] at H
    have c17b0:decide (1 < (l0_2.length:Int)) = true:=decide_eq_true c17
    have c17b1:decide (1 < l0_2.length) = true:=decide_eq_true (by omega)
    clear c17
    replace H:=Option.bind_eq_some_iff.mp H
    obtain ⟨t171,A180,H⟩:=H
    replace H:(if 1 + t171.size ≤ 9223372036854775807 then (if ((⟨#[123]⟩:ByteArray) ++ t171).size + 1 ≤ 9223372036854775807 then (if 0 < (l0_2.length:Int) then ((impl_sealText.f k ((rd_T25 l0_2 0).f0) ((rd_T25 l0_2 0).f1) ((rd_T25 l0_2 0).f2)).bind fun t173=>(if (((⟨#[123]⟩:ByteArray) ++ t171) ++ (⟨#[125]⟩:ByteArray)).size + t173.size ≤ 9223372036854775807 then (some ((((⟨#[123]⟩:ByteArray) ++ t171) ++ (⟨#[125]⟩:ByteArray)) ++ t173)) else (none))) else (none)) else (none)) else (none)) = some r:=H
    have A18:=Aside0.mk A180
    clear A180
    by_cases c19:1 + t171.size ≤ 9223372036854775807
    ·rw [if_pos c19] at H
     have c19b0:=eq_true c19
     have c19b1:decide (1 + t171.size ≤ 9223372036854775807) = true:=decide_eq_true c19
     try have c19b2:(9223372036854775807 < 1 + t171.size) = False:=eq_false (Nat.not_lt.2 c19)
     by_cases c20:((⟨#[123]⟩:ByteArray) ++ t171).size + 1 ≤ 9223372036854775807
     ·rw [if_pos c20] at H
      have c20b0:=eq_true c20
      have c20b1:decide (((⟨#[123]⟩:ByteArray) ++ t171).size + 1 ≤ 9223372036854775807) = true:=decide_eq_true c20
      try have c20b2:(9223372036854775807 < ((⟨#[123]⟩:ByteArray) ++ t171).size + 1) = False:=eq_false (Nat.not_lt.2 c20)
      try (have c20b3:=c20b2;simp only [ByteArray.size_append,show (⟨#[123]⟩:ByteArray).size = 1 from rfl] at c20b3)
      by_cases c21:0 < (l0_2.length:Int)
      ·rw [if_pos c21] at H
       have c21b0:decide (0 < (l0_2.length:Int)) = true:=decide_eq_true c21
       have c21b1:decide (0 < l0_2.length) = true:=decide_eq_true (by omega)
       clear c21
       replace H:=Option.bind_eq_some_iff.mp H
       obtain ⟨t173,A220,H⟩:=H
       replace H:(if (((⟨#[123]⟩:ByteArray) ++ t171) ++ (⟨#[125]⟩:ByteArray)).size + t173.size ≤ 9223372036854775807 then (some ((((⟨#[123]⟩:ByteArray) ++ t171) ++ (⟨#[125]⟩:ByteArray)) ++ t173)) else (none)) = some r:=H
       have A22:=Aside0.mk A220
       clear A220
       by_cases c23:(((⟨#[123]⟩:ByteArray) ++ t171) ++ (⟨#[125]⟩:ByteArray)).size + t173.size ≤ 9223372036854775807
       ·rw [if_pos c23] at H
        have c23b0:=eq_true c23
        have c23b1:decide ((((⟨#[123]⟩:ByteArray) ++ t171) ++ (⟨#[125]⟩:ByteArray)).size + t173.size ≤ 9223372036854775807) = true:=decide_eq_true c23
        try have c23b2:(9223372036854775807 < (((⟨#[123]⟩:ByteArray) ++ t171) ++ (⟨#[125]⟩:ByteArray)).size + t173.size) = False:=eq_false (Nat.not_lt.2 c23)
        try (have c23b3:=c23b2;simp only [ByteArray.size_append,show (⟨#[123]⟩:ByteArray).size = 1 from rfl,show (⟨#[125]⟩:ByteArray).size = 1 from rfl] at c23b3)
        obtain rfl:=Option.some.inj H
        go_enter Tryd.func46,Tryd.ntmps46
        try go_wp2_with (first | ((with_reducible refine gate_dst (N:=1) rfl ?_);refine box_event ?hg (N:=1) ?hd (cs:=#[.int .i64 a0_0,.int .i64 a0_1,.slice A0_2 l0_2.length c0_2]) (t:=25) ?hr ?_;(case hd=>rfl);(case hg=>rfl);(case hr=>first | (go_simp;done) | (go_simp;rfl));intro gb165 hg w24 hbox hb;have n0_:=Aside0.mk (below_step (by repeat (first | (with_reducible first | exact HB.out | apply below_alloc | apply pw_below_drewN | apply below_drew1) | exact HB.out)) hb);have n1_:=Aside0.mk (hbox);have n2_:=Aside0.mk ((by rw [hg];exact (below_size (by repeat (first | (with_reducible first | exact HB.out | apply below_alloc | apply pw_below_drewN | apply below_drew1) | exact HB.out))):w.heap.size ≤ gb165));have n3_:=Aside0.mk ((by rw [hg];exact (below_size (by repeat (first | (with_reducible first | exact HB.out | apply below_alloc | apply pw_below_drewN | apply below_drew1) | exact HB.out))):w.heap.size ≤ gb165));clear HB;have HB:=n0_;have BK165:=n1_;have GW165:=n2_;have GE165:=n3_;clear n0_ n1_ n2_ n3_;clear hb hbox hg;have hcz25_0:w24.cell? ⟨gb165,0,none⟩ = some (.int .i64 a0_0):=(blk_cell BK165.out 0).trans rfl;have hcz25_1:w24.cell? ⟨gb165,1,none⟩ = some (.int .i64 a0_1):=(blk_cell BK165.out 1).trans rfl;have hcz25_2:w24.cell? ⟨gb165,2,none⟩ = some (.slice A0_2 l0_2.length c0_2):=(blk_cell BK165.out 2).trans rfl;have hfz25_0:=blk_frozen BK165.out 0;have hfz25_1:=blk_frozen BK165.out 1;have hfz25_2:=blk_frozen BK165.out 2))
        have n0_:=Aside0.mk (blk_drew BK165.out)
        have n1_:=Aside0.mk (below_drew1 HB.out)
        clear BK165
        clear HB
        have BK165:=n0_
        have HB:=n1_
        clear n0_ n1_
        have p170:0 ≤ (1:Int):=(by omega)
        have q170:1 < (l0_2.length:Int):=of_decide_eq_true (by first | (with_reducible assumption) | assumption)
        obtain ⟨ad170,A170_2,c170_2,e170,hx170_0,hx170_1,hx170_2,hl170_2,hi170_2⟩:=at_T25 HR0_2.out 1 p170 q170
        have hw170_2:=hx170_2
        (try rw [show ((1:Int)).toNat = 1 from rfl] at hw170_2)
        (try rw [show 1 * 3 = 3 from rfl] at hw170_2)
        (try simp only [Nat.reduceMul,Nat.reduceEqDiff,Go.Addr.add,↓reduceIte] at hw170_2)
        have hw170_1:=hx170_1
        (try rw [show ((1:Int)).toNat = 1 from rfl] at hw170_1)
        (try rw [show 1 * 3 = 3 from rfl] at hw170_1)
        (try simp only [Nat.reduceMul,Nat.reduceEqDiff,Go.Addr.add,↓reduceIte] at hw170_1)
        have hw170_0:=hx170_0
        (try rw [show ((1:Int)).toNat = 1 from rfl] at hw170_0)
        (try rw [show 1 * 3 = 3 from rfl] at hw170_0)
        (try simp only [Nat.reduceMul,Nat.reduceEqDiff,Go.Addr.add,↓reduceIte] at hw170_0)
        cases e170
        (try simp only [show (1:Int).toNat = 1 from rfl,Nat.reduceMul,Nat.reduceEqDiff,Go.Addr.add,↓reduceIte] at hx170_0)
        (try simp only [show (1:Int).toNat = 1 from rfl,Nat.reduceMul,Nat.reduceEqDiff,Go.Addr.add,↓reduceIte] at hx170_1)
        (try simp only [show (1:Int).toNat = 1 from rfl,Nat.reduceMul,Nat.reduceEqDiff,Go.Addr.add,↓reduceIte] at hx170_2)
        have qi170:(1 < l0_2.length) = True:=eq_true (by omega)
        (try rw [show ((1:Int)).toNat = 1 from rfl] at hx170_0)
        (try rw [show 1 * 3 = 3 from rfl] at hx170_0)
        (try rw [show ((1:Int)).toNat = 1 from rfl] at hx170_1)
        (try rw [show 1 * 3 = 3 from rfl] at hx170_1)
        (try rw [show ((1:Int)).toNat = 1 from rfl] at hx170_2)
        (try rw [show 1 * 3 = 3 from rfl] at hx170_2)
        replace hx170_0:=(HB.out.cell (World.block_lt_of_cell? w _ hx170_0)).trans hx170_0
        replace hx170_1:=(HB.out.cell (World.block_lt_of_cell? w _ hx170_1)).trans hx170_1
        replace hx170_2:=(HB.out.cell (World.block_lt_of_cell? w _ hx170_2)).trans hx170_2
        have HR170_2:=Aside0.mk hi170_2
        have HC170_2:=Aside0.mk hl170_2
        clear hi170_2 hl170_2
        replace p170:=eq_true p170
        replace q170:=eq_true q170
        have p172:0 ≤ (0:Int):=(by omega)
        have q172:0 < (l0_2.length:Int):=of_decide_eq_true (by first | (with_reducible assumption) | assumption)
        obtain ⟨ad172,A172_2,c172_2,e172,hx172_0,hx172_1,hx172_2,hl172_2,hi172_2⟩:=at_T25 HR0_2.out 0 p172 q172
        have hw172_2:=hx172_2
        (try rw [show ((0:Int)).toNat = 0 from rfl] at hw172_2)
        (try rw [show 0 * 3 = 0 from rfl] at hw172_2)
        (try rw [Addr.add_zero'] at hw172_2)
        have hw172_1:=hx172_1
        (try rw [show ((0:Int)).toNat = 0 from rfl] at hw172_1)
        (try rw [show 0 * 3 = 0 from rfl] at hw172_1)
        (try rw [Addr.add_zero'] at hw172_1)
        have hw172_0:=hx172_0
        (try rw [show ((0:Int)).toNat = 0 from rfl] at hw172_0)
        (try rw [show 0 * 3 = 0 from rfl] at hw172_0)
        (try rw [Addr.add_zero'] at hw172_0)
        obtain rfl:ad170 = ad172:=(by injection e172)
        have qi172:(0 < l0_2.length) = True:=eq_true (by omega)
        (try rw [show ((0:Int)).toNat = 0 from rfl] at hx172_0)
        (try rw [show 0 * 3 = 0 from rfl] at hx172_0)
        (try rw [Addr.add_zero'] at hx172_0)
        (try rw [show ((0:Int)).toNat = 0 from rfl] at hx172_1)
        (try rw [show 0 * 3 = 0 from rfl] at hx172_1)
        (try rw [Addr.add_zero'] at hx172_1)
        (try rw [show ((0:Int)).toNat = 0 from rfl] at hx172_2)
        (try rw [show 0 * 3 = 0 from rfl] at hx172_2)
        (try rw [Addr.add_zero'] at hx172_2)
        replace hx172_0:=(HB.out.cell (World.block_lt_of_cell? w _ hx172_0)).trans hx172_0
        replace hx172_1:=(HB.out.cell (World.block_lt_of_cell? w _ hx172_1)).trans hx172_1
        replace hx172_2:=(HB.out.cell (World.block_lt_of_cell? w _ hx172_2)).trans hx172_2
        have HR172_2:=Aside0.mk hi172_2
        have HC172_2:=Aside0.mk hl172_2
        clear hi172_2 hl172_2
        replace p172:=eq_true p172
        replace q172:=eq_true q172
        refine start_ (n:=14) (S:=fun w'=>w'.cell? ⟨gb165,0,none⟩ = some (.int .i64 a0_0)∧w'.cell? ⟨gb165,1,none⟩ = some (.int .i64 a0_1)∧w'.cell? ⟨gb165,2,none⟩ = some (.slice (some ad170) l0_2.length c0_2)∧w'.cell? ⟨ad170.block,ad170.off + 3,none⟩ = some (.int .i64 ((rd_T25 l0_2 1).f0))∧w'.cell? ⟨ad170.block,ad170.off + 3 + 1,none⟩ = some (.int .i64 ((rd_T25 l0_2 1).f1))∧w'.cell? ⟨ad170.block,ad170.off + 3 + 2,none⟩ = some (.slice A170_2 ((rd_T25 l0_2 1).f2).length c170_2)∧w'.cell? ad170 = some (.int .i64 ((rd_T25 l0_2 0).f0))∧w'.cell? ⟨ad170.block,ad170.off + 1,none⟩ = some (.int .i64 ((rd_T25 l0_2 0).f1))∧w'.cell? ⟨ad170.block,ad170.off + 2,none⟩ = some (.slice A172_2 ((rd_T25 l0_2 0).f2).length c172_2)) (ds:=[]) #[false,false,false,false,false,false,false,false,false,false,false,false,false,false] (by kernel_rfl) rfl rfl ⟨(blk_cell BK165.out 0).trans rfl,(blk_cell BK165.out 1).trans rfl,(blk_cell BK165.out 2).trans rfl,((HB.out.cell (World.block_lt_of_cell? w _ hw170_0)).trans hw170_0),((HB.out.cell (World.block_lt_of_cell? w _ hw170_1)).trans hw170_1),((HB.out.cell (World.block_lt_of_cell? w _ hw170_2)).trans hw170_2),((HB.out.cell (World.block_lt_of_cell? w _ hw172_0)).trans hw172_0),((HB.out.cell (World.block_lt_of_cell? w _ hw172_1)).trans hw172_1),((HB.out.cell (World.block_lt_of_cell? w _ hw172_2)).trans hw172_2)⟩ (fun hHeld=>?_);refine with_tabW impl_sealText.tab5 impl_sealText.bits5 (fun HT_ HW_=>?_)
        generalize w24.drew = w26 at BK165 HB HR170_2 HR172_2 hx170_0 hx170_1 hx170_2 hx172_0 hx172_1 hx172_2 hHeld ⊢
        refine pure_ (i:=0) (N:=some 23) (v:=?_) (a':=?_) #[true,false,false,false,false,false,false,false,false,false,false,false,false,false] rfl rfl (any_of HT_.out (by kernel_rfl)) (fun _ _ _ h=>h) (Or.inl ⟨by rfl,?_⟩) ?_ ?_
        rotate_left;·intro w';go_simp;with_reducible rfl
        rotate_left;·simp only [Act.put,List.setIfInBounds_toArray,List.set_cons_zero,List.set_cons_succ,i64_w,i32_w];rfl
        refine pure_ (i:=7) (N:=some 30) (v:=?_) (a':=?_) #[true,false,false,false,false,false,false,true,false,false,false,false,false,false] rfl rfl (any_of HT_.out (by kernel_rfl)) (fun _ _ _ h=>h) (Or.inl ⟨by rfl,?_⟩) ?_ ?_
        rotate_left;·intro w';go_simp;with_reducible rfl
        rotate_left;·simp only [Act.put,List.setIfInBounds_toArray,List.set_cons_zero,List.set_cons_succ,i64_w,i32_w];rfl
        refine take_ (i:=1) (N:=some 24) (v:=?_) (a':=?_) #[true,true,false,false,false,false,false,true,false,false,false,false,false,false] rfl rfl (take_ofW HT_.out HW_.out (by kernel_rfl)) (fun _ _ _ h=>h) (Or.inl ⟨by rfl,?_⟩) hHeld ?_ ?_
        rotate_left;·rintro w' ⟨s0,s1,s2,s3,s4,s5,s6,s7,s8⟩;go_simp;with_reducible rfl
        rotate_left;·simp only [Act.put,List.setIfInBounds_toArray,List.set_cons_zero,List.set_cons_succ,i64_w,i32_w];rfl
        refine pure_ (i:=2) (N:=some 25) (v:=?_) (a':=?_) #[true,true,true,false,false,false,false,true,false,false,false,false,false,false] rfl rfl (any_of HT_.out (by kernel_rfl)) (fun _ _ _ h=>h) (Or.inl ⟨by rfl,?_⟩) ?_ ?_
        rotate_left;·intro w';go_simp;with_reducible rfl
        rotate_left;·simp only [Act.put,List.setIfInBounds_toArray,List.set_cons_zero,List.set_cons_succ,i64_w,i32_w];rfl
        refine take_ (i:=3) (N:=some 26) (v:=?_) (a':=?_) #[true,true,true,true,false,false,false,true,false,false,false,false,false,false] rfl rfl (take_ofW HT_.out HW_.out (by kernel_rfl)) (fun _ _ _ h=>h) (Or.inl ⟨by rfl,?_⟩) hHeld ?_ ?_
        rotate_left;·rintro w' ⟨s0,s1,s2,s3,s4,s5,s6,s7,s8⟩;go_simp;with_reducible rfl
        rotate_left;·simp only [Act.put,List.setIfInBounds_toArray,List.set_cons_zero,List.set_cons_succ,i64_w,i32_w];rfl
        refine take_ (i:=8) (N:=some 31) (v:=?_) (a':=?_) #[true,true,true,true,false,false,false,true,true,false,false,false,false,false] rfl rfl (take_ofW HT_.out HW_.out (by kernel_rfl)) (fun _ _ _ h=>h) (Or.inl ⟨by rfl,?_⟩) hHeld ?_ ?_
        rotate_left;·rintro w' ⟨s0,s1,s2,s3,s4,s5,s6,s7,s8⟩;go_simp;with_reducible rfl
        rotate_left;·simp only [Act.put,List.setIfInBounds_toArray,List.set_cons_zero,List.set_cons_succ,i64_w,i32_w];rfl
        refine pure_ (i:=9) (N:=some 32) (v:=?_) (a':=?_) #[true,true,true,true,false,false,false,true,true,true,false,false,false,false] rfl rfl (any_of HT_.out (by kernel_rfl)) (fun _ _ _ h=>h) (Or.inl ⟨by rfl,?_⟩) ?_ ?_
        rotate_left;·intro w';go_simp;with_reducible rfl
        rotate_left;·simp only [Act.put,List.setIfInBounds_toArray,List.set_cons_zero,List.set_cons_succ,i64_w,i32_w];rfl
        refine take_ (i:=10) (N:=some 33) (v:=?_) (a':=?_) #[true,true,true,true,false,false,false,true,true,true,true,false,false,false] rfl rfl (take_ofW HT_.out HW_.out (by kernel_rfl)) (fun _ _ _ h=>h) (Or.inl ⟨by rfl,?_⟩) hHeld ?_ ?_
        rotate_left;·rintro w' ⟨s0,s1,s2,s3,s4,s5,s6,s7,s8⟩;go_simp;with_reducible rfl
        rotate_left;·simp only [Act.put,List.setIfInBounds_toArray,List.set_cons_zero,List.set_cons_succ,i64_w,i32_w];rfl
        refine one_ (i:=4) (N:=some 27) #[true,true,true,true,true,false,false,true,true,true,true,false,false,false] rfl rfl (one_of HT_.out (by kernel_rfl)) (by decide) (fun K hK=>?_)
        refine goes_ Tryd.func46 (by kernel_rfl) rfl #[.agg #[.int .i64 ((rd_T25 l0_2 1).f0),.int .i64 ((rd_T25 l0_2 1).f1),.slice A170_2 ((rd_T25 l0_2 1).f2).length c170_2]] (by rfl) rfl rfl (by (try simp only [List.map_toArray,List.map_cons,List.map_nil]);first | done | rfl | (simp only [List.length_drop,List.length_take];rfl)) ?_
        with_reducible refine (ih k (by omega) ((rd_T25 l0_2 1).f0) ((rd_T25 l0_2 1).f1) _ _ ((rd_T25 l0_2 1).f2) t171 _ ?side1 ?side2 A18.out).mono ?_
        (case side1=>repeat (first | exact (Kd.C_below HR170_2.out HB.out) | (with_reducible refine Kd.C_alloc ?_ _) | (with_reducible refine Kd.C_drewN ?_ _) | (with_reducible refine Kd.C_drew ?_)))
        (case side2=>exact HC170_2.out)
        rintro e w27 ⟨rfl,hb⟩
        refine ⟨_,rfl,?_⟩
        have n0_:=Aside0.mk (blk_below (g:=gb165) (o:=.cells #[.int .i64 a0_0,.int .i64 a0_1,.slice (some ad170) l0_2.length c0_2] 25 (0,0)) (by (with_reducible repeat (first | refine blk_drewN ?_ _ | refine blk_drew ?_ | refine blk_alloc ?_ _));exact BK165.out) hb)
        have n1_:=Aside0.mk (below_step (by repeat (first | (with_reducible first | exact HB.out | apply below_alloc | apply pw_below_drewN | apply below_drew1 | refine below_set ?_ GE165.out) | exact HB.out)) hb)
        clear BK165
        clear HB
        have BK165:=n0_
        have HB:=n1_
        clear n0_ n1_
        (try clear hb)
        (try clear hb2)
        (try clear hk)
        (try clear hi)
        refine hK.out _ _ ⟨(blk_cell BK165.out 0).trans rfl,(blk_cell BK165.out 1).trans rfl,(blk_cell BK165.out 2).trans rfl,((HB.out.cell (World.block_lt_of_cell? w _ hw170_0)).trans hw170_0),((HB.out.cell (World.block_lt_of_cell? w _ hw170_1)).trans hw170_1),((HB.out.cell (World.block_lt_of_cell? w _ hw170_2)).trans hw170_2),((HB.out.cell (World.block_lt_of_cell? w _ hw172_0)).trans hw172_0),((HB.out.cell (World.block_lt_of_cell? w _ hw172_1)).trans hw172_1),((HB.out.cell (World.block_lt_of_cell? w _ hw172_2)).trans hw172_2)⟩ (fun hHeld=>?_)
        clear hK K
        refine norm_ (a':=?_) ?_ ?_
        rotate_left
        ·show Act.put _ (some 27) _ = _
         simp only [Act.put,List.setIfInBounds_toArray,List.set_cons_zero,List.set_cons_succ,i64_w,i32_w]
         rfl
        refine pure_ (i:=5) (N:=some 28) (v:=?_) (a':=?_) #[true,true,true,true,true,true,false,true,true,true,true,false,false,false] rfl rfl (any_of HT_.out (by kernel_rfl)) (fun _ _ _ h=>h) (Or.inl ⟨by rfl,?_⟩) ?_ ?_
        rotate_left;·intro w';go_simp;with_reducible rfl
        rotate_left;·simp only [Act.put,List.setIfInBounds_toArray,List.set_cons_zero,List.set_cons_succ,i64_w,i32_w];rfl
        refine pure_ (i:=6) (N:=some 29) (v:=?_) (a':=?_) #[true,true,true,true,true,true,true,true,true,true,true,false,false,false] rfl rfl (any_of HT_.out (by kernel_rfl)) (fun _ _ _ h=>h) (Or.inl ⟨by rfl,?_⟩) ?_ ?_
        rotate_left;·intro w';go_simp;with_reducible rfl
        rotate_left;·simp only [Act.put,List.setIfInBounds_toArray,List.set_cons_zero,List.set_cons_succ,i64_w,i32_w];rfl
        refine one_ (i:=11) (N:=some 34) #[true,true,true,true,true,true,true,true,true,true,true,true,false,false] rfl rfl (one_of HT_.out (by kernel_rfl)) (by decide) (fun K hK=>?_)
        refine goes_ Tryd.func46 (by kernel_rfl) rfl #[.agg #[.int .i64 ((rd_T25 l0_2 0).f0),.int .i64 ((rd_T25 l0_2 0).f1),.slice A172_2 ((rd_T25 l0_2 0).f2).length c172_2]] (by rfl) rfl rfl (by (try simp only [List.map_toArray,List.map_cons,List.map_nil]);first | done | rfl | (simp only [List.length_drop,List.length_take];rfl)) ?_
        with_reducible refine (ih k (by omega) ((rd_T25 l0_2 0).f0) ((rd_T25 l0_2 0).f1) _ _ ((rd_T25 l0_2 0).f2) t173 _ ?side1 ?side2 A22.out).mono ?_
        (case side1=>repeat (first | exact (Kd.C_below HR172_2.out HB.out) | (with_reducible refine Kd.C_alloc ?_ _) | (with_reducible refine Kd.C_drewN ?_ _) | (with_reducible refine Kd.C_drew ?_)))
        (case side2=>exact HC172_2.out)
        rintro e w28 ⟨rfl,hb⟩
        refine ⟨_,rfl,?_⟩
        have n0_:=Aside0.mk (blk_below (g:=gb165) (o:=.cells #[.int .i64 a0_0,.int .i64 a0_1,.slice (some ad170) l0_2.length c0_2] 25 (0,0)) (by (with_reducible repeat (first | refine blk_drewN ?_ _ | refine blk_drew ?_ | refine blk_alloc ?_ _));exact BK165.out) hb)
        have n1_:=Aside0.mk (below_step (by repeat (first | (with_reducible first | exact HB.out | apply below_alloc | apply pw_below_drewN | apply below_drew1 | refine below_set ?_ GE165.out) | exact HB.out)) hb)
        clear BK165
        clear HB
        have BK165:=n0_
        have HB:=n1_
        clear n0_ n1_
        (try clear hb)
        (try clear hb2)
        (try clear hk)
        (try clear hi)
        refine hK.out _ _ ⟨(blk_cell BK165.out 0).trans rfl,(blk_cell BK165.out 1).trans rfl,(blk_cell BK165.out 2).trans rfl,((HB.out.cell (World.block_lt_of_cell? w _ hw170_0)).trans hw170_0),((HB.out.cell (World.block_lt_of_cell? w _ hw170_1)).trans hw170_1),((HB.out.cell (World.block_lt_of_cell? w _ hw170_2)).trans hw170_2),((HB.out.cell (World.block_lt_of_cell? w _ hw172_0)).trans hw172_0),((HB.out.cell (World.block_lt_of_cell? w _ hw172_1)).trans hw172_1),((HB.out.cell (World.block_lt_of_cell? w _ hw172_2)).trans hw172_2)⟩ (fun hHeld=>?_)
        clear hK K
        refine norm_ (a':=?_) ?_ ?_
        rotate_left
        ·show Act.put _ (some 34) _ = _
         simp only [Act.put,List.setIfInBounds_toArray,List.set_cons_zero,List.set_cons_succ,i64_w,i32_w]
         rfl
        refine pure_ (i:=12) (N:=some 35) (v:=?_) (a':=?_) #[true,true,true,true,true,true,true,true,true,true,true,true,true,false] rfl rfl (any_of HT_.out (by kernel_rfl)) (fun _ _ _ h=>h) (Or.inl ⟨by rfl,?_⟩) ?_ ?_
        rotate_left;·intro w';go_simp;with_reducible rfl
        rotate_left;·simp only [Act.put,List.setIfInBounds_toArray,List.set_cons_zero,List.set_cons_succ,i64_w,i32_w];rfl
        refine pure_ (i:=13) (N:=some 2) (v:=?_) (a':=?_) #[true,true,true,true,true,true,true,true,true,true,true,true,true,true] rfl rfl (any_of HT_.out (by kernel_rfl)) (fun _ _ _ h=>h) (Or.inl ⟨by rfl,?_⟩) ?_ ?_
        rotate_left;·intro w';go_simp;with_reducible rfl
        rotate_left;·simp only [Act.put,List.setIfInBounds_toArray,List.set_cons_zero,List.set_cons_succ,i64_w,i32_w];rfl
        refine done_ (done_of HT_.out (by kernel_rfl)) ?_
        try go_wp2
        go_ret
        exact ⟨by first | rfl | (simp [errW_none,errW_some] <;> rfl) | (simp [*,errW_none,errW_some] <;> rfl),by repeat (first | (with_reducible first | exact HB.out | apply below_alloc | apply pw_below_drewN | apply below_drew1 | refine below_set ?_ GE165.out) | exact HB.out)⟩
       ·rw [if_neg c23] at H
        exact absurd H (by simp)
      ·rw [if_neg c21] at H
       exact absurd H (by simp)
     ·rw [if_neg c20] at H
      exact absurd H (by simp)
    ·rw [if_neg c19] at H
     exact absurd H (by simp)
   ·rw [if_neg c17] at H
    exact absurd H (by simp)
  ·rw [if_neg c16] at H
   have c16b0:(a0_0 == 2) = false:=beq_eq_false_iff_ne.mpr c16
   have c16b1:(a0_0 != 2) = true:=bne_iff_ne.mpr c16
   replace H:=Option.bind_eq_some_iff.mp H
   obtain ⟨t174,A290,H⟩:=H
   replace H:(if 1 + t174.size ≤ 9223372036854775807 then (some ((⟨#[109]⟩:ByteArray) ++ t174)) else (none)) = some r:=H
   have A29:=Aside0.mk A290
   clear A290
   by_cases c30:1 + t174.size ≤ 9223372036854775807
   ·rw [if_pos c30] at H
    have c30b0:=eq_true c30
    have c30b1:decide (1 + t174.size ≤ 9223372036854775807) = true:=decide_eq_true c30
    try have c30b2:(9223372036854775807 < 1 + t174.size) = False:=eq_false (Nat.not_lt.2 c30)
    obtain rfl:=Option.some.inj H
    go_enter Tryd.func46,Tryd.ntmps46
    go_wp2_with (first | ((with_reducible refine gate_dst (N:=1) rfl ?_);refine box_event ?hg (N:=1) ?hd (cs:=#[.int .i64 a0_0,.int .i64 a0_1,.slice A0_2 l0_2.length c0_2]) (t:=25) ?hr ?_;(case hd=>rfl);(case hg=>rfl);(case hr=>first | (go_simp;done) | (go_simp;rfl));intro gb165 hg w31 hbox hb;have n0_:=Aside0.mk (below_step (by repeat (first | (with_reducible first | exact HB.out | apply below_alloc | apply pw_below_drewN | apply below_drew1) | exact HB.out)) hb);have n1_:=Aside0.mk (hbox);have n2_:=Aside0.mk ((by rw [hg];exact (below_size (by repeat (first | (with_reducible first | exact HB.out | apply below_alloc | apply pw_below_drewN | apply below_drew1) | exact HB.out))):w.heap.size ≤ gb165));have n3_:=Aside0.mk ((by rw [hg];exact (below_size (by repeat (first | (with_reducible first | exact HB.out | apply below_alloc | apply pw_below_drewN | apply below_drew1) | exact HB.out))):w.heap.size ≤ gb165));clear HB;have HB:=n0_;have BK165:=n1_;have GW165:=n2_;have GE165:=n3_;clear n0_ n1_ n2_ n3_;clear hb hbox hg;have hcz32_0:w31.cell? ⟨gb165,0,none⟩ = some (.int .i64 a0_0):=(blk_cell BK165.out 0).trans rfl;have hcz32_1:w31.cell? ⟨gb165,1,none⟩ = some (.int .i64 a0_1):=(blk_cell BK165.out 1).trans rfl;have hcz32_2:w31.cell? ⟨gb165,2,none⟩ = some (.slice A0_2 l0_2.length c0_2):=(blk_cell BK165.out 2).trans rfl;have hfz32_0:=blk_frozen BK165.out 0;have hfz32_1:=blk_frozen BK165.out 1;have hfz32_2:=blk_frozen BK165.out 2) | ((with_reducible refine gate_callee (f:=59) rfl ?_);refine goesL_ (some 38) rfl rfl Tryd.func59 (by kernel_rfl) rfl #[.int .i64 a0_1] rfl (by (try simp only [List.map_toArray,List.map_cons,List.map_nil]);first | done | rfl | (simp only [List.length_drop,List.length_take];rfl)) ?_;(with_reducible refine (strconv_Itoa_59.calls a0_1 t174 _ A29.out).mono ?_);rintro e w33 ⟨rfl,hb⟩;refine ⟨_,rfl,?_⟩;have n0_:=Aside0.mk (blk_below (g:=gb165) (o:=.cells #[.int .i64 a0_0,.int .i64 a0_1,.slice A0_2 l0_2.length c0_2] 25 (0,0)) (by (with_reducible repeat (first | refine blk_drewN ?_ _ | refine blk_drew ?_ | refine blk_alloc ?_ _));exact BK165.out) hb);have n1_:=Aside0.mk (below_step (by repeat (first | (with_reducible first | exact HB.out | apply below_alloc | apply pw_below_drewN | apply below_drew1 | refine below_set ?_ GE165.out) | exact HB.out)) hb);clear BK165;clear HB;have BK165:=n0_;have HB:=n1_;clear n0_ n1_;(try clear hb);(try clear hb2);(try clear hk);(try clear hi)))
    go_ret
    exact ⟨by first | rfl | (simp [errW_none,errW_some] <;> rfl) | (simp [*,errW_none,errW_some] <;> rfl),by repeat (first | (with_reducible first | exact HB.out | apply below_alloc | apply pw_below_drewN | apply below_drew1 | refine below_set ?_ GE165.out) | exact HB.out)⟩
   ·rw [if_neg c30] at H
    exact absurd H (by simp)
def impl_SealText.f (k:Nat) (a0_0:Int) (a0_1:Int) (l0_2:List (S25)):Option (ByteArray):=(impl_SealOk.f k a0_0 a0_1 l0_2).bind fun t176=>(if t176 = true then ((impl_sealText.f k a0_0 a0_1 l0_2).bind fun t177=>(some t177)) else (some (⟨#[]⟩:ByteArray)))
theorem impl_SealText.mono:∀ a0 a1 a2 k,LeO (impl_SealText.f k a0 a1 a2) (impl_SealText.f (k + 1) a0 a1 a2):=by
 intro a0 a1 a2 k
 unfold impl_SealText.f
 repeat' first
   | (with_reducible exact impl_SealOk.mono _ _ _ _)
   | (with_reducible exact impl_sealText.mono _ _ _ _)
   | (with_reducible exact LeO.refl _)
   | (with_reducible exact LeO.none _)
   | (with_reducible refine LeO.ite ?_ ?_)
   | (with_reducible refine LeO.bind ?_ (fun _=>?_))
   | exact impl_SealOk.mono _ _ _ _
   | exact impl_sealText.mono _ _ _ _
   | exact LeO.none _
   | refine LeO.ite ?_ ?_
   | refine LeO.bind ?_ (fun _=>?_)
set_option maxHeartbeats 8000000 in
set_option maxRecDepth 100000 in
theorem impl_SealText.calls (k:Nat) (a0_0:Int) (a0_1:Int) (A0_2:Option Addr) (c0_2:Nat) (l0_2:List (S25)) (r:ByteArray) (w:World) (hr0_2:Kd.C k25 w A0_2 l0_2.length l0_2) (hc0_2:l0_2.length ≤ c0_2) (h:impl_SealText.f k a0_0 a0_1 l0_2 = some r) :
  Calls Tryd.prog 16 #[.agg #[.int .i64 a0_0,.int .i64 a0_1,.slice A0_2 l0_2.length c0_2]] w fun e w'=>e = .returned (.string r)∧Below w.heap.size w w':=by
 have hu25:=Tryd.underlying25
 have HR0_2:=Aside0.mk hr0_2
 have HC0_2:=Aside0.mk hc0_2
 clear hr0_2 hc0_2
 have HB:=Aside0.mk (Below.refl w.heap.size w)
 have H:((impl_SealOk.f k a0_0 a0_1 l0_2).bind fun t176=>(if t176 = true then ((impl_sealText.f k a0_0 a0_1 l0_2).bind fun t177=>(some t177)) else (some (⟨#[]⟩:ByteArray)))) = some r:=h
 clear h
 replace H:=Option.bind_eq_some_iff.mp H
 obtain ⟨t176,A20,H⟩:=H
 replace H:(if t176 = true then ((impl_sealText.f k a0_0 a0_1 l0_2).bind fun t177=>(some t177)) else (some (⟨#[]⟩:ByteArray))) = some r:=H
 have A2:=Aside0.mk A20
 clear A20
 by_cases c3:t176 = true
 ·subst c3
  have H1:((impl_sealText.f k a0_0 a0_1 l0_2).bind fun t177=>(some t177)) = some r:=by rw [if_pos rfl] at H;exact H
  clear H
  have H:=H1
  clear H1
  replace H:=Option.bind_eq_some_iff.mp H
  obtain ⟨t177,A40,H⟩:=H
  replace H:(some t177) = some r:=H
  have A4:=Aside0.mk A40
  clear A40
  obtain rfl:=Option.some.inj H
  go_enter Tryd.func16,Tryd.ntmps16
  go_wp2_with (first | ((with_reducible refine gate_dst (N:=1) rfl ?_);refine box_event ?hg (N:=1) ?hd (cs:=#[.int .i64 a0_0,.int .i64 a0_1,.slice A0_2 l0_2.length c0_2]) (t:=25) ?hr ?_;(case hd=>rfl);(case hg=>rfl);(case hr=>first | (go_simp;done) | (go_simp;rfl));intro gb175 hg w5 hbox hb;have n0_:=Aside0.mk (below_step (by repeat (first | (with_reducible first | exact HB.out | apply below_alloc | apply pw_below_drewN | apply below_drew1) | exact HB.out)) hb);have n1_:=Aside0.mk (hbox);have n2_:=Aside0.mk ((by rw [hg];exact (below_size (by repeat (first | (with_reducible first | exact HB.out | apply below_alloc | apply pw_below_drewN | apply below_drew1) | exact HB.out))):w.heap.size ≤ gb175));have n3_:=Aside0.mk ((by rw [hg];exact (below_size (by repeat (first | (with_reducible first | exact HB.out | apply below_alloc | apply pw_below_drewN | apply below_drew1) | exact HB.out))):w.heap.size ≤ gb175));clear HB;have HB:=n0_;have BK175:=n1_;have GW175:=n2_;have GE175:=n3_;clear n0_ n1_ n2_ n3_;clear hb hbox hg;have hcz6_0:w5.cell? ⟨gb175,0,none⟩ = some (.int .i64 a0_0):=(blk_cell BK175.out 0).trans rfl;have hcz6_1:w5.cell? ⟨gb175,1,none⟩ = some (.int .i64 a0_1):=(blk_cell BK175.out 1).trans rfl;have hcz6_2:w5.cell? ⟨gb175,2,none⟩ = some (.slice A0_2 l0_2.length c0_2):=(blk_cell BK175.out 2).trans rfl;have hfz6_0:=blk_frozen BK175.out 0;have hfz6_1:=blk_frozen BK175.out 1;have hfz6_2:=blk_frozen BK175.out 2) | ((with_reducible refine gate_callee (f:=14) rfl ?_);refine goesL_ (some 4) rfl rfl Tryd.func14 (by kernel_rfl) rfl #[.agg #[.int .i64 a0_0,.int .i64 a0_1,.slice A0_2 l0_2.length c0_2]] rfl (by (try simp only [List.map_toArray,List.map_cons,List.map_nil]);first | done | rfl | (simp only [List.length_drop,List.length_take];rfl)) ?_;(with_reducible refine (impl_SealOk.calls k a0_0 a0_1 _ _ l0_2 true _ ?side1 ?side2 A2.out).mono ?_);(case side1=>repeat (first | exact (Kd.C_below HR0_2.out HB.out) | (with_reducible refine Kd.C_alloc ?_ _) | (with_reducible refine Kd.C_drewN ?_ _) | (with_reducible refine Kd.C_drew ?_)));(case side2=>exact HC0_2.out);rintro e w7 ⟨rfl,hb⟩;refine ⟨_,rfl,?_⟩;have n0_:=Aside0.mk (blk_below (g:=gb175) (o:=.cells #[.int .i64 a0_0,.int .i64 a0_1,.slice A0_2 l0_2.length c0_2] 25 (0,0)) (by (with_reducible repeat (first | refine blk_drewN ?_ _ | refine blk_drew ?_ | refine blk_alloc ?_ _));exact BK175.out) hb);have n1_:=Aside0.mk (below_step (by repeat (first | (with_reducible first | exact HB.out | apply below_alloc | apply pw_below_drewN | apply below_drew1 | refine below_set ?_ GE175.out) | exact HB.out)) hb);clear BK175;clear HB;have BK175:=n0_;have HB:=n1_;clear n0_ n1_;(try clear hb);(try clear hb2);(try clear hk);(try clear hi);have hcz8_0:w7.cell? ⟨gb175,0,none⟩ = some (.int .i64 a0_0):=(blk_cell BK175.out 0).trans rfl;have hcz8_1:w7.cell? ⟨gb175,1,none⟩ = some (.int .i64 a0_1):=(blk_cell BK175.out 1).trans rfl;have hcz8_2:w7.cell? ⟨gb175,2,none⟩ = some (.slice A0_2 l0_2.length c0_2):=(blk_cell BK175.out 2).trans rfl;have hfz8_0:=blk_frozen BK175.out 0;have hfz8_1:=blk_frozen BK175.out 1;have hfz8_2:=blk_frozen BK175.out 2) | ((with_reducible refine gate_callee (f:=46) rfl ?_);refine goesL_ (some 7) rfl rfl Tryd.func46 (by kernel_rfl) rfl #[.agg #[.int .i64 a0_0,.int .i64 a0_1,.slice A0_2 l0_2.length c0_2]] rfl (by (try simp only [List.map_toArray,List.map_cons,List.map_nil]);first | done | rfl | (simp only [List.length_drop,List.length_take];rfl)) ?_;(with_reducible refine (impl_sealText.calls k a0_0 a0_1 _ _ l0_2 t177 _ ?side1 ?side2 A4.out).mono ?_);(case side1=>repeat (first | exact (Kd.C_below HR0_2.out HB.out) | (with_reducible refine Kd.C_alloc ?_ _) | (with_reducible refine Kd.C_drewN ?_ _) | (with_reducible refine Kd.C_drew ?_)));(case side2=>exact HC0_2.out);rintro e w9 ⟨rfl,hb⟩;refine ⟨_,rfl,?_⟩;have n0_:=Aside0.mk (blk_below (g:=gb175) (o:=.cells #[.int .i64 a0_0,.int .i64 a0_1,.slice A0_2 l0_2.length c0_2] 25 (0,0)) (by (with_reducible repeat (first | refine blk_drewN ?_ _ | refine blk_drew ?_ | refine blk_alloc ?_ _));exact BK175.out) hb);have n1_:=Aside0.mk (below_step (by repeat (first | (with_reducible first | exact HB.out | apply below_alloc | apply pw_below_drewN | apply below_drew1 | refine below_set ?_ GE175.out) | exact HB.out)) hb);clear BK175;clear HB;have BK175:=n0_;have HB:=n1_;clear n0_ n1_;(try clear hb);(try clear hb2);(try clear hk);(try clear hi)))
  go_ret
  exact ⟨by first | rfl | (simp [errW_none,errW_some] <;> rfl) | (simp [*,errW_none,errW_some] <;> rfl),by repeat (first | (with_reducible first | exact HB.out | apply below_alloc | apply pw_below_drewN | apply below_drew1 | refine below_set ?_ GE175.out) | exact HB.out)⟩
 ·replace c3:=Bool.eq_false_iff.mpr c3
  subst c3
  have H1:(some (⟨#[]⟩:ByteArray)) = some r:=by rw [if_neg (show ¬ (false = true) by decide)] at H;exact H
  clear H
  have H:=H1
  clear H1
  obtain rfl:=Option.some.inj H
  go_enter Tryd.func16,Tryd.ntmps16
  go_wp2_with (first | ((with_reducible refine gate_dst (N:=1) rfl ?_);refine box_event ?hg (N:=1) ?hd (cs:=#[.int .i64 a0_0,.int .i64 a0_1,.slice A0_2 l0_2.length c0_2]) (t:=25) ?hr ?_;(case hd=>rfl);(case hg=>rfl);(case hr=>first | (go_simp;done) | (go_simp;rfl));intro gb175 hg w10 hbox hb;have n0_:=Aside0.mk (below_step (by repeat (first | (with_reducible first | exact HB.out | apply below_alloc | apply pw_below_drewN | apply below_drew1) | exact HB.out)) hb);have n1_:=Aside0.mk (hbox);have n2_:=Aside0.mk ((by rw [hg];exact (below_size (by repeat (first | (with_reducible first | exact HB.out | apply below_alloc | apply pw_below_drewN | apply below_drew1) | exact HB.out))):w.heap.size ≤ gb175));have n3_:=Aside0.mk ((by rw [hg];exact (below_size (by repeat (first | (with_reducible first | exact HB.out | apply below_alloc | apply pw_below_drewN | apply below_drew1) | exact HB.out))):w.heap.size ≤ gb175));clear HB;have HB:=n0_;have BK175:=n1_;have GW175:=n2_;have GE175:=n3_;clear n0_ n1_ n2_ n3_;clear hb hbox hg;have hcz11_0:w10.cell? ⟨gb175,0,none⟩ = some (.int .i64 a0_0):=(blk_cell BK175.out 0).trans rfl;have hcz11_1:w10.cell? ⟨gb175,1,none⟩ = some (.int .i64 a0_1):=(blk_cell BK175.out 1).trans rfl;have hcz11_2:w10.cell? ⟨gb175,2,none⟩ = some (.slice A0_2 l0_2.length c0_2):=(blk_cell BK175.out 2).trans rfl;have hfz11_0:=blk_frozen BK175.out 0;have hfz11_1:=blk_frozen BK175.out 1;have hfz11_2:=blk_frozen BK175.out 2) | ((with_reducible refine gate_callee (f:=14) rfl ?_);refine goesL_ (some 4) rfl rfl Tryd.func14 (by kernel_rfl) rfl #[.agg #[.int .i64 a0_0,.int .i64 a0_1,.slice A0_2 l0_2.length c0_2]] rfl (by (try simp only [List.map_toArray,List.map_cons,List.map_nil]);first | done | rfl | (simp only [List.length_drop,List.length_take];rfl)) ?_;(with_reducible refine (impl_SealOk.calls k a0_0 a0_1 _ _ l0_2 false _ ?side1 ?side2 A2.out).mono ?_);(case side1=>repeat (first | exact (Kd.C_below HR0_2.out HB.out) | (with_reducible refine Kd.C_alloc ?_ _) | (with_reducible refine Kd.C_drewN ?_ _) | (with_reducible refine Kd.C_drew ?_)));(case side2=>exact HC0_2.out);rintro e w12 ⟨rfl,hb⟩;refine ⟨_,rfl,?_⟩;have n0_:=Aside0.mk (blk_below (g:=gb175) (o:=.cells #[.int .i64 a0_0,.int .i64 a0_1,.slice A0_2 l0_2.length c0_2] 25 (0,0)) (by (with_reducible repeat (first | refine blk_drewN ?_ _ | refine blk_drew ?_ | refine blk_alloc ?_ _));exact BK175.out) hb);have n1_:=Aside0.mk (below_step (by repeat (first | (with_reducible first | exact HB.out | apply below_alloc | apply pw_below_drewN | apply below_drew1 | refine below_set ?_ GE175.out) | exact HB.out)) hb);clear BK175;clear HB;have BK175:=n0_;have HB:=n1_;clear n0_ n1_;(try clear hb);(try clear hb2);(try clear hk);(try clear hi)))
  go_ret
  exact ⟨by first | rfl | (simp [errW_none,errW_some] <;> rfl) | (simp [*,errW_none,errW_some] <;> rfl),by repeat (first | (with_reducible first | exact HB.out | apply below_alloc | apply pw_below_drewN | apply below_drew1 | refine below_set ?_ GE175.out) | exact HB.out)⟩
end Go.Proofs.YtbcjpdahdecehaaDoor.P
