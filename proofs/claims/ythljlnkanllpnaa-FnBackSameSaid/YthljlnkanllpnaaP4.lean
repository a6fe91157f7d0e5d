/- What the Go functions that the laws reach compute, and that their calls come to just that: told by a program of this session (aprint.py). No condition. -/
import Derived.Test.YthljlnkanllpnaaP0
import Derived.Test.YthljlnkanllpnaaP1
import Derived.Test.YthljlnkanllpnaaP2
import Derived.Test.YthljlnkanllpnaaP3
import Derived.Test.YthljlnkanllpnaaHSame
namespace Go.Proofs.Ythljlnkanllpnaa.P
open Go.RowKit Go.Proofs.YthljlnkanllpnaaW.PrintWords Go.Proofs.YthljlnkanllpnaaW.PrintLast Go.Proofs.YthljlnkanllpnaaW.PrintMore
attribute [local go_sem] max2_int min2_int max_two min_two max_three min_three max_four min_four
set_option linter.unusedVariables false
set_option linter.unusedSimpArgs false
attribute [local go_sem high] eqA32
mutual
def laws_FnBackSame.j0:Nat → List (List Int) → List (S32) → Int → Int → List (S32) → Bool → Bool → Option (Bool)
 | 0,_,_,_,_,_,_,_=>none
 | k + 1,x3,x4,x5,x6,x7,x8,x50=>if x50 = true then (some false) else ((some (([]:List (S32)):List (S32))).bind fun y991=>(if y991.length + x4.length < 8796093022208 then (laws_FnBackSame.l0 k x3 x4 x5 x6 x7 x8 (y991 ++ x4) 0) else (none)))
def laws_FnBackSame.l0:Nat → List (List Int) → List (S32) → Int → Int → List (S32) → Bool → List (S32) → Int → Option (Bool)
 | 0,_,_,_,_,_,_,_,_=>none
 | k + 1,x3,x4,x5,x6,x7,x8,x11,x12=>if (wrap64 (x12 + 1)) < (x11.length:Int) then ((some (([]:List (S32)):List (S32))).bind fun y997=>(if y997.length + x11.length < 8796093022208 then ((some (y997 ++ x11:List (S32))).bind fun y1000=>(if 0 ≤ (wrap64 (x12 + 1)) then (if (wrap64 (x12 + 1)) < (y1000.length:Int) then (if 0 ≤ x12 then (if x12 < (y1000.length:Int) then ((some ((y1000.set (x12:Int).toNat (⟨(rd_T32 y1000 (wrap64 (x12 + 1))).f0,(rd_T32 y1000 (wrap64 (x12 + 1))).f1⟩:S32)).set ((wrap64 (x12 + 1)):Int).toNat (⟨(rd_T32 y1000 x12).f0,(rd_T32 y1000 x12).f1⟩:S32):List (S32))).bind fun y1006=>((impl_HistorySame.f k x3 x4 y1006).bind fun t1007=>(if t1007 = true then (laws_FnBackSame.l0 k x3 x4 x5 x6 x7 x8 y1006 (wrap64 (x12 + 1))) else (laws_FnBackSame.l0 k x3 x4 x5 x6 x7 x8 x11 (wrap64 (x12 + 1)))))) else (none)) else (none)) else (none)) else (none))) else (none))) else ((impl_HistoryBack.f k x3 x11 x5 x6).bind fun bt1008=>(if x8 = true then (if bt1008.2 = true then ((impl_HistorySame.f k x3 x7 bt1008.1).bind fun t1012=>(some t1012)) else (some false)) else (some true)))
end
def laws_FnBackSame.f (k:Nat) (l0:List Int):Option (Bool):=if (l0.length:Int) > 1048576 then (some true) else ((spec_DrawHistoryBack.f k l0).bind fun bt974=>((impl_HistoryBack.f k bt974.1 bt974.2.1 bt974.2.2.1 bt974.2.2.2).bind fun bt982=>((spec_HistoryBack.f k bt974.1 bt974.2.1 bt974.2.2.1 bt974.2.2.2).bind fun bt986=>((laws_mnEvents.f k bt982.1 bt986.1).bind fun t990=>(if t990 = true then (laws_FnBackSame.j0 k bt974.1 bt974.2.1 bt974.2.2.1 bt974.2.2.2 bt982.1 bt982.2 (bt982.2 != bt986.2)) else (laws_FnBackSame.j0 k bt974.1 bt974.2.1 bt974.2.2.1 bt974.2.2.2 bt982.1 bt982.2 true))))))
theorem laws_FnBackSame.mono_l:∀ k,(∀ y0 y1 y2 y3 y4 y5 y6,LeO (laws_FnBackSame.j0 k y0 y1 y2 y3 y4 y5 y6) (laws_FnBackSame.j0 (k + 1) y0 y1 y2 y3 y4 y5 y6))∧(∀ y0 y1 y2 y3 y4 y5 y6 y7,LeO (laws_FnBackSame.l0 k y0 y1 y2 y3 y4 y5 y6 y7) (laws_FnBackSame.l0 (k + 1) y0 y1 y2 y3 y4 y5 y6 y7))
 | 0=>⟨fun _ _ _ _ _ _ _ r h=>by simp [laws_FnBackSame.j0] at h,fun _ _ _ _ _ _ _ _ r h=>by simp [laws_FnBackSame.l0] at h⟩
 | k + 1=>by
  obtain ⟨ih0,ih1⟩:=laws_FnBackSame.mono_l k
  refine ⟨?_,?_⟩
  ·intro y0 y1 y2 y3 y4 y5 y6
   unfold laws_FnBackSame.j0
   repeat' first
   | (with_reducible exact ih0 _ _ _ _ _ _ _)
   | (with_reducible exact ih1 _ _ _ _ _ _ _ _)
   | (with_reducible exact impl_HistoryBack.mono _ _ _ _ _)
   | (with_reducible exact impl_HistorySame.mono _ _ _ _)
   | (with_reducible exact laws_mnEvents.mono _ _ _)
   | (with_reducible exact spec_DrawHistoryBack.mono _ _)
   | (with_reducible exact spec_HistoryBack.mono _ _ _ _ _)
   | (with_reducible exact LeO.refl _)
   | (with_reducible exact LeO.none _)
   | (with_reducible refine LeO.ite ?_ ?_)
   | (with_reducible refine LeO.bind ?_ (fun _=>?_))
   | exact ih0 _ _ _ _ _ _ _
   | exact ih1 _ _ _ _ _ _ _ _
   | exact impl_HistoryBack.mono _ _ _ _ _
   | exact impl_HistorySame.mono _ _ _ _
   | exact laws_mnEvents.mono _ _ _
   | exact spec_DrawHistoryBack.mono _ _
   | exact spec_HistoryBack.mono _ _ _ _ _
   | exact LeO.none _
   | refine LeO.ite ?_ ?_
   | refine LeO.bind ?_ (fun _=>?_)
  ·intro y0 y1 y2 y3 y4 y5 y6 y7
   unfold laws_FnBackSame.l0
   repeat' first
   | (with_reducible exact ih0 _ _ _ _ _ _ _)
   | (with_reducible exact ih1 _ _ _ _ _ _ _ _)
   | (with_reducible exact impl_HistoryBack.mono _ _ _ _ _)
   | (with_reducible exact impl_HistorySame.mono _ _ _ _)
   | (with_reducible exact laws_mnEvents.mono _ _ _)
   | (with_reducible exact spec_DrawHistoryBack.mono _ _)
   | (with_reducible exact spec_HistoryBack.mono _ _ _ _ _)
   | (with_reducible exact LeO.refl _)
   | (with_reducible exact LeO.none _)
   | (with_reducible refine LeO.ite ?_ ?_)
   | (with_reducible refine LeO.bind ?_ (fun _=>?_))
   | exact ih0 _ _ _ _ _ _ _
   | exact ih1 _ _ _ _ _ _ _ _
   | exact impl_HistoryBack.mono _ _ _ _ _
   | exact impl_HistorySame.mono _ _ _ _
   | exact laws_mnEvents.mono _ _ _
   | exact spec_DrawHistoryBack.mono _ _
   | exact spec_HistoryBack.mono _ _ _ _ _
   | exact LeO.none _
   | refine LeO.ite ?_ ?_
   | refine LeO.bind ?_ (fun _=>?_)
theorem laws_FnBackSame.mono:∀ a0 k,LeO (laws_FnBackSame.f k a0) (laws_FnBackSame.f (k + 1) a0):=by
 intro a0 k
 obtain ⟨ih0,ih1⟩:=laws_FnBackSame.mono_l k
 unfold laws_FnBackSame.f
 repeat' first
   | (with_reducible exact ih0 _ _ _ _ _ _ _)
   | (with_reducible exact ih1 _ _ _ _ _ _ _ _)
   | (with_reducible exact impl_HistoryBack.mono _ _ _ _ _)
   | (with_reducible exact impl_HistorySame.mono _ _ _ _)
   | (with_reducible exact laws_mnEvents.mono _ _ _)
   | (with_reducible exact spec_DrawHistoryBack.mono _ _)
   | (with_reducible exact spec_HistoryBack.mono _ _ _ _ _)
   | (with_reducible exact LeO.refl _)
   | (with_reducible exact LeO.none _)
   | (with_reducible refine LeO.ite ?_ ?_)
   | (with_reducible refine LeO.bind ?_ (fun _=>?_))
   | exact ih0 _ _ _ _ _ _ _
   | exact ih1 _ _ _ _ _ _ _ _
   | exact impl_HistoryBack.mono _ _ _ _ _
   | exact impl_HistorySame.mono _ _ _ _
   | exact laws_mnEvents.mono _ _ _
   | exact spec_DrawHistoryBack.mono _ _
   | exact spec_HistoryBack.mono _ _ _ _ _
   | exact LeO.none _
   | refine LeO.ite ?_ ?_
   | refine LeO.bind ?_ (fun _=>?_)
def laws_FnBackSame.T13:Bool × List (List Nat × List Nat):=(true,[([],[]),([],[]),([],[]),([],[]),([3],[3]),([],[]),([],[]),([6],[6]),([5,7],[5,7]),([8],[8]),([],[]),([],[]),([10,11],[10,11]),([12],[12]),([0,1,0,1,5,6,7,8,9,13],[0,1]),([14,9,0,1,5,6,7,8,9,13],[9,14]),([2,4,0,1,2,3,4,5,6,7,8,9,10,11,12,13,14,15],[2,4]),([16,13,15,0,1,2,3,4,5,6,7,8,9,10,11,12,13,14,15],[13,16])])
def laws_FnBackSame.B13:List Nat:=[0,0,0,0,8,0,0,64,224,480,0,0,3072,7168,16355,32739,65535,131071]
theorem laws_FnBackSame.tab13:rtab .any (opsOf Try.f17 13) = laws_FnBackSame.T13:=by kernel_rfl
theorem laws_FnBackSame.bits13:waitsOk laws_FnBackSame.T13.2 laws_FnBackSame.B13 = true:=by kernel_rfl
set_option maxHeartbeats 8000000 in
set_option maxRecDepth 100000 in
theorem laws_FnBackSame.calls (k:Nat) (A0:Option Addr) (c0:Nat) (l0:List Int) (r:Bool) (w:World) (hr0:Kd.C (Kd.int .u8) w A0 l0.length l0) (hc0:l0.length ≤ c0) (h:laws_FnBackSame.f k l0 = some r) :
  Calls Try.prog 17 #[.slice A0 l0.length c0] w fun e w'=>e = .returned (.bool r)∧Below w.heap.size w w':=by
 have hu32:=Try.underlying32
 have HR0:=Aside0.mk hr0
 have HC0:=Aside0.mk hc0
 clear hr0 hc0
 have HB:=Aside0.mk (Below.refl w.heap.size w)
 have H:(if (l0.length:Int) > 1048576 then (some true) else ((spec_DrawHistoryBack.f k l0).bind fun bt974=>((impl_HistoryBack.f k bt974.1 bt974.2.1 bt974.2.2.1 bt974.2.2.2).bind fun bt982=>((spec_HistoryBack.f k bt974.1 bt974.2.1 bt974.2.2.1 bt974.2.2.2).bind fun bt986=>((laws_mnEvents.f k bt982.1 bt986.1).bind fun t990=>(if t990 = true then (laws_FnBackSame.j0 k bt974.1 bt974.2.1 bt974.2.2.1 bt974.2.2.2 bt982.1 bt982.2 (bt982.2 != bt986.2)) else (laws_FnBackSame.j0 k bt974.1 bt974.2.1 bt974.2.2.1 bt974.2.2.2 bt982.1 bt982.2 true))))))) = some r:=h
 clear h
 by_cases c2:(l0.length:Int) > 1048576
 ·rw [if_pos c2] at H
  have c2b0:decide (1048576 < (l0.length:Int)) = true:=decide_eq_true c2
  have c2b1:decide (1048576 < l0.length) = true:=decide_eq_true (by omega)
  clear c2
  obtain rfl:=Option.some.inj H
  go_enter Try.func17,Try.ntmps17
  go_wp2
  go_ret
  exact ⟨by first | rfl | (simp [errW_none,errW_some] <;> rfl) | (simp [*,errW_none,errW_some] <;> rfl),by repeat (first | (with_reducible first | exact HB.out | apply below_alloc | apply pw_below_drewN | apply below_drew1) | exact HB.out)⟩
 ·rw [if_neg c2] at H
  have c2b0:decide (1048576 < (l0.length:Int)) = false:=decide_eq_false c2
  have c2b1:decide (1048576 < l0.length) = false:=decide_eq_false (by omega)
  clear c2
  replace H:=Option.bind_eq_some_iff.mp H
  obtain ⟨⟨t974,t975,t976,t977⟩,A30,H⟩:=H
  replace H:((impl_HistoryBack.f k t974 t975 t976 t977).bind fun bt982=>((spec_HistoryBack.f k t974 t975 t976 t977).bind fun bt986=>((laws_mnEvents.f k bt982.1 bt986.1).bind fun t990=>(if t990 = true then (laws_FnBackSame.j0 k t974 t975 t976 t977 bt982.1 bt982.2 (bt982.2 != bt986.2)) else (laws_FnBackSame.j0 k t974 t975 t976 t977 bt982.1 bt982.2 true))))) = some r:=H
  have A3:=Aside0.mk A30
  clear A30
  replace H:=Option.bind_eq_some_iff.mp H
  obtain ⟨⟨t982,t983⟩,A40,H⟩:=H
  replace H:((spec_HistoryBack.f k t974 t975 t976 t977).bind fun bt986=>((laws_mnEvents.f k t982 bt986.1).bind fun t990=>(if t990 = true then (laws_FnBackSame.j0 k t974 t975 t976 t977 t982 t983 (t983 != bt986.2)) else (laws_FnBackSame.j0 k t974 t975 t976 t977 t982 t983 true)))) = some r:=H
  have A4:=Aside0.mk A40
  clear A40
  replace H:=Option.bind_eq_some_iff.mp H
  obtain ⟨⟨t986,t987⟩,A50,H⟩:=H
  replace H:((laws_mnEvents.f k t982 t986).bind fun t990=>(if t990 = true then (laws_FnBackSame.j0 k t974 t975 t976 t977 t982 t983 (t983 != t987)) else (laws_FnBackSame.j0 k t974 t975 t976 t977 t982 t983 true))) = some r:=H
  have A5:=Aside0.mk A50
  clear A50
  have HC6:=Aside0.mk H
  clear H
  go_enter Try.func17,Try.ntmps17
  go_upto_region 6 with (first | ((with_reducible refine gate_callee (f:=46) rfl ?_);refine goesL_ (some 21) rfl rfl Try.func46 (by kernel_rfl) rfl #[.slice A0 l0.length c0] rfl (by (try simp only [List.map_toArray,List.map_cons,List.map_nil]);first | done | rfl | (simp only [List.length_drop,List.length_take];rfl)) ?_;(with_reducible refine (spec_DrawHistoryBack.calls k _ _ l0 t974 t975 t976 t977 _ ?side1 ?side2 A3.out).mono ?_);(case side1=>repeat (first | exact HR0.out | (with_reducible refine Kd.C_alloc ?_ _) | (with_reducible refine Kd.C_drewN ?_ _) | (with_reducible refine Kd.C_drew ?_)));(case side2=>exact HC0.out);rintro e w7 ⟨v978,v980,rfl,ho0,ho1,hb⟩;refine ⟨_,rfl,?_⟩;have n0_:=Aside0.mk (Kd.S_lower ho0 (below_size (by repeat (first | (with_reducible first | exact HB.out | apply below_alloc | apply pw_below_drewN | apply below_drew1) | exact HB.out))));have n1_:=Aside0.mk (Kd.R_lower ho1 (below_size (by repeat (first | (with_reducible first | exact HB.out | apply below_alloc | apply pw_below_drewN | apply below_drew1) | exact HB.out))));have n2_:=Aside0.mk (below_step (by repeat (first | (with_reducible first | exact HB.out | apply below_alloc | apply pw_below_drewN | apply below_drew1) | exact HB.out)) hb);clear HB;have HO979:=n0_;have HO981:=n1_;have HB:=n2_;clear n0_ n1_ n2_;(try clear hb);(try clear hb2);(try clear hk);(try clear hi);(try clear ho0);(try clear ho1);obtain ⟨Ao8,co8,eo8⟩:=Kd.S_slice HO979.out;subst eo8;obtain ⟨Ao9,co9,eo9⟩:=Kd.R_slice HO981.out;subst eo9) | ((with_reducible refine gate_callee (f:=47) rfl ?_);refine goesL_ (some 31) rfl rfl Try.func47 (by kernel_rfl) rfl #[.slice Ao8 t974.length co8,.slice Ao9 t975.length co9,.int .i64 t976,.int .i64 t977] rfl (by (try simp only [List.map_toArray,List.map_cons,List.map_nil]);first | done | rfl | (simp only [List.length_drop,List.length_take];rfl)) ?_;(with_reducible refine (impl_HistoryBack.calls k _ _ t974 _ _ t975 t976 t977 t982 t983 _ ?side1 ?side2 ?side3 ?side4 A4.out).mono ?_);(case side1=>repeat (first | exact (Kd.S_reads' HO979.out).2.2 | (with_reducible refine Kd.C_alloc ?_ _) | (with_reducible refine Kd.C_drewN ?_ _) | (with_reducible refine Kd.C_drew ?_)));(case side2=>exact (Kd.S_reads' HO979.out).2.1);(case side3=>repeat (first | exact (Kd.R_reads' HO981.out).2.2 | (with_reducible refine Kd.C_alloc ?_ _) | (with_reducible refine Kd.C_drewN ?_ _) | (with_reducible refine Kd.C_drew ?_)));(case side4=>exact (Kd.R_reads' HO981.out).2.1);rintro e w10 ⟨v984,rfl,ho0,hb⟩;refine ⟨_,rfl,?_⟩;have n0_:=Aside0.mk (Kd.S_below (by (with_reducible repeat (first | apply Kd.S_alloc | apply Kd.S_drewN | apply Kd.S_drew));exact HO979.out) hb);have n1_:=Aside0.mk (Kd.R_elder' (by (with_reducible repeat (first | apply Kd.R_alloc | apply Kd.R_drewN | apply Kd.R_drew));exact HO981.out) (Kd.R_base ho0) hb);have n2_:=Aside0.mk (Kd.R_lower (Kd.R_new' ho0 (Kd.R_lt (by (with_reducible repeat (first | apply Kd.R_alloc | apply Kd.R_drewN | apply Kd.R_drew));exact HO981.out))) (below_size (by repeat (first | (with_reducible first | exact HB.out | apply below_alloc | apply pw_below_drewN | apply below_drew1) | exact HB.out))));have n3_:=Aside0.mk (below_step (by repeat (first | (with_reducible first | exact HB.out | apply below_alloc | apply pw_below_drewN | apply below_drew1) | exact HB.out)) hb);clear HO979;clear HO981;clear HB;have HO979:=n0_;have HO981:=n1_;have HO985:=n2_;have HB:=n3_;clear n0_ n1_ n2_ n3_;(try clear hb);(try clear hb2);(try clear hk);(try clear hi);(try clear ho0)) | ((with_reducible refine gate_callee (f:=48) rfl ?_);refine goesL_ (some 39) rfl rfl Try.func48 (by kernel_rfl) rfl #[.slice Ao8 t974.length co8,.slice Ao9 t975.length co9,.int .i64 t976,.int .i64 t977] rfl (by (try simp only [List.map_toArray,List.map_cons,List.map_nil]);first | done | rfl | (simp only [List.length_drop,List.length_take];rfl)) ?_;(with_reducible refine (spec_HistoryBack.calls k _ _ t974 _ _ t975 t976 t977 t986 t987 _ ?side1 ?side2 ?side3 ?side4 A5.out).mono ?_);(case side1=>repeat (first | exact (Kd.S_reads' HO979.out).2.2 | (with_reducible refine Kd.C_alloc ?_ _) | (with_reducible refine Kd.C_drewN ?_ _) | (with_reducible refine Kd.C_drew ?_)));(case side2=>exact (Kd.S_reads' HO979.out).2.1);(case side3=>repeat (first | exact (Kd.R_reads' HO981.out).2.2 | (with_reducible refine Kd.C_alloc ?_ _) | (with_reducible refine Kd.C_drewN ?_ _) | (with_reducible refine Kd.C_drew ?_)));(case side4=>exact (Kd.R_reads' HO981.out).2.1);rintro e w11 ⟨v988,rfl,ho0,hb⟩;refine ⟨_,rfl,?_⟩;have n0_:=Aside0.mk (Kd.S_below (by (with_reducible repeat (first | apply Kd.S_alloc | apply Kd.S_drewN | apply Kd.S_drew));exact HO979.out) hb);have n1_:=Aside0.mk (Kd.R_elder' (by (with_reducible repeat (first | apply Kd.R_alloc | apply Kd.R_drewN | apply Kd.R_drew));exact HO981.out) (Kd.R_base ho0) hb);have n2_:=Aside0.mk (Kd.R_elder' (by (with_reducible repeat (first | apply Kd.R_alloc | apply Kd.R_drewN | apply Kd.R_drew));exact HO985.out) (Kd.R_base ho0) hb);have n3_:=Aside0.mk (Kd.R_lower (Kd.R_new' (Kd.R_new' ho0 (Kd.R_lt (by (with_reducible repeat (first | apply Kd.R_alloc | apply Kd.R_drewN | apply Kd.R_drew));exact HO981.out))) (Kd.R_lt (by (with_reducible repeat (first | apply Kd.R_alloc | apply Kd.R_drewN | apply Kd.R_drew));exact HO985.out))) (below_size (by repeat (first | (with_reducible first | exact HB.out | apply below_alloc | apply pw_below_drewN | apply below_drew1) | exact HB.out))));have n4_:=Aside0.mk (below_step (by repeat (first | (with_reducible first | exact HB.out | apply below_alloc | apply pw_below_drewN | apply below_drew1) | exact HB.out)) hb);clear HO979;clear HO981;clear HO985;clear HB;have HO979:=n0_;have HO981:=n1_;have HO985:=n2_;have HO989:=n3_;have HB:=n4_;clear n0_ n1_ n2_ n3_ n4_;(try clear hb);(try clear hb2);(try clear hk);(try clear hi);(try clear ho0)))
  (try simp only [Act.put,List.setIfInBounds_toArray,List.set_cons_zero,List.set_cons_succ])
  go_cut [50] (fun v50 wc=>∃ (kq:Nat) (x50_5:Bool),v50 = .bool x50_5∧Aside0 (laws_FnBackSame.j0 kq t974 t975 t976 t977 t982 t983 x50_5 = some r)∧Aside0 (kq ≤ k)∧Aside0 (Kd.S (Kd.slice 3 (Kd.int .i64)) 27 wc w.heap.size (fun _=>True) (.slice Ao8 t974.length co8) t974)∧Aside0 (Kd.R k32 32 wc w.heap.size (fun k_=>some k_ ≠ (v984:Value).ownBlock) (.slice Ao9 t975.length co9) t975)∧Aside0 (Kd.R k32 32 wc w.heap.size (fun k_=>some k_ ≠ ((.slice Ao9 t975.length co9):Value).ownBlock) v984 t982)∧Aside0 (Below w.heap.size w wc))
  case first =>
   have H:=HC6.out
   clear HC6
   replace H:=Option.bind_eq_some_iff.mp H
   obtain ⟨t990,A120,H⟩:=H
   replace H:(if t990 = true then (laws_FnBackSame.j0 k t974 t975 t976 t977 t982 t983 (t983 != t987)) else (laws_FnBackSame.j0 k t974 t975 t976 t977 t982 t983 true)) = some r:=H
   have A12:=Aside0.mk A120
   clear A120
   by_cases c13:t990 = true
   ·subst c13
    have H1:(laws_FnBackSame.j0 k t974 t975 t976 t977 t982 t983 (t983 != t987)) = some r:=by rw [if_pos rfl] at H;exact H
    clear H
    have H:=H1
    clear H1
    have H':=Aside0.mk H
    clear H
    obtain ⟨Ao14,co14,eo14⟩:=Kd.R_slice HO985.out
    subst eo14
    obtain ⟨Ao15,co15,eo15⟩:=Kd.R_slice HO989.out
    subst eo15
    go_wp2_with (first | ((with_reducible refine gate_callee (f:=34) rfl ?_);refine goesL_ (some 44) rfl rfl Try.func34 (by kernel_rfl) rfl #[.slice Ao14 t982.length co14,.slice Ao15 t986.length co15] rfl (by (try simp only [List.map_toArray,List.map_cons,List.map_nil]);first | done | rfl | (simp only [List.length_drop,List.length_take];rfl)) ?_;(with_reducible refine (laws_mnEvents.calls k _ _ t982 _ _ t986 true _ ?side1 ?side2 ?side3 ?side4 A12.out).mono ?_);(case side1=>repeat (first | exact (Kd.R_reads' HO985.out).2.2 | (with_reducible refine Kd.C_alloc ?_ _) | (with_reducible refine Kd.C_drewN ?_ _) | (with_reducible refine Kd.C_drew ?_)));(case side2=>exact (Kd.R_reads' HO985.out).2.1);(case side3=>repeat (first | exact (Kd.R_reads' HO989.out).2.2 | (with_reducible refine Kd.C_alloc ?_ _) | (with_reducible refine Kd.C_drewN ?_ _) | (with_reducible refine Kd.C_drew ?_)));(case side4=>exact (Kd.R_reads' HO989.out).2.1);rintro e w' ⟨rfl,⟨nd,rfl⟩⟩;refine ⟨_,rfl,?_⟩))
    go_meet
    case rel=>exact ⟨_,((t983 != t987)),(by first | rfl | (simp;done) | (simp [*];done)),H',⟨by first | omega | exact Nat.le_refl _⟩,⟨by (with_reducible repeat (first | apply Kd.S_alloc | apply Kd.S_drewN | apply Kd.S_drew));exact HO979.out⟩,⟨by (with_reducible repeat (first | apply Kd.R_alloc | apply Kd.R_drewN | apply Kd.R_drew));exact Kd.R_mono HO981.out (fun _ hk=>hk.1.2)⟩,⟨by (with_reducible repeat (first | apply Kd.R_alloc | apply Kd.R_drewN | apply Kd.R_drew));exact Kd.R_mono HO985.out (fun _ hk=>hk.1.2)⟩,⟨by repeat (first | (with_reducible first | exact HB.out | apply below_alloc | apply pw_below_drewN | apply below_drew1) | exact HB.out)⟩⟩
   ·replace c13:=Bool.eq_false_iff.mpr c13
    subst c13
    have H1:(laws_FnBackSame.j0 k t974 t975 t976 t977 t982 t983 true) = some r:=by rw [if_neg (show ¬ (false = true) by decide)] at H;exact H
    clear H
    have H:=H1
    clear H1
    have H':=Aside0.mk H
    clear H
    obtain ⟨Ao16,co16,eo16⟩:=Kd.R_slice HO985.out
    subst eo16
    obtain ⟨Ao17,co17,eo17⟩:=Kd.R_slice HO989.out
    subst eo17
    go_wp2_with (first | ((with_reducible refine gate_callee (f:=34) rfl ?_);refine goesL_ (some 44) rfl rfl Try.func34 (by kernel_rfl) rfl #[.slice Ao16 t982.length co16,.slice Ao17 t986.length co17] rfl (by (try simp only [List.map_toArray,List.map_cons,List.map_nil]);first | done | rfl | (simp only [List.length_drop,List.length_take];rfl)) ?_;(with_reducible refine (laws_mnEvents.calls k _ _ t982 _ _ t986 false _ ?side1 ?side2 ?side3 ?side4 A12.out).mono ?_);(case side1=>repeat (first | exact (Kd.R_reads' HO985.out).2.2 | (with_reducible refine Kd.C_alloc ?_ _) | (with_reducible refine Kd.C_drewN ?_ _) | (with_reducible refine Kd.C_drew ?_)));(case side2=>exact (Kd.R_reads' HO985.out).2.1);(case side3=>repeat (first | exact (Kd.R_reads' HO989.out).2.2 | (with_reducible refine Kd.C_alloc ?_ _) | (with_reducible refine Kd.C_drewN ?_ _) | (with_reducible refine Kd.C_drew ?_)));(case side4=>exact (Kd.R_reads' HO989.out).2.1);rintro e w' ⟨rfl,⟨nd,rfl⟩⟩;refine ⟨_,rfl,?_⟩))
    go_meet
    case rel=>exact ⟨_,(true),(by first | rfl | (simp;done) | (simp [*];done)),H',⟨by first | omega | exact Nat.le_refl _⟩,⟨by (with_reducible repeat (first | apply Kd.S_alloc | apply Kd.S_drewN | apply Kd.S_drew));exact HO979.out⟩,⟨by (with_reducible repeat (first | apply Kd.R_alloc | apply Kd.R_drewN | apply Kd.R_drew));exact Kd.R_mono HO981.out (fun _ hk=>hk.1.2)⟩,⟨by (with_reducible repeat (first | apply Kd.R_alloc | apply Kd.R_drewN | apply Kd.R_drew));exact Kd.R_mono HO985.out (fun _ hk=>hk.1.2)⟩,⟨by repeat (first | (with_reducible first | exact HB.out | apply below_alloc | apply pw_below_drewN | apply below_drew1) | exact HB.out)⟩⟩
  case rest =>
   clear HC6
   try clear c1
   try clear c2
   try clear c2b0
   try clear c2b1
   try clear p2
   try clear c3
   try clear c4
   try clear c13
   try clear c17
   obtain ⟨kq,x50_5,rfl,HA,HJ5,HO_3,HO_4,HO_7,HB⟩:=hcut
   cases kq with
   | zero=>exact absurd HA.out (by simp [laws_FnBackSame.j0])
   | succ kj5 =>
    have H:=HA.out
    clear HA
    simp only [laws_FnBackSame.j0] at H
    by_cases c18:x50_5 = true
    ·subst c18
     have H1:(some false) = some r:=by rw [if_pos rfl] at H;exact H
     clear H
     have H:=H1
     clear H1
     obtain rfl:=Option.some.inj H
     go_wp2
     go_ret
     exact ⟨by first | rfl | (simp [errW_none,errW_some] <;> rfl) | (simp [*,errW_none,errW_some] <;> rfl),by repeat (first | (with_reducible first | exact HB.out | apply below_alloc | apply pw_below_drewN | apply below_drew1) | exact HB.out)⟩
    ·replace c18:=Bool.eq_false_iff.mpr c18
     subst c18
     have H1:((some (([]:List (S32)):List (S32))).bind fun y991=>(if y991.length + t975.length < 8796093022208 then (laws_FnBackSame.l0 kj5 t974 t975 t976 t977 t982 t983 (y991 ++ t975) 0) else (none))) = some r:=by rw [if_neg (show ¬ (false = true) by decide)] at H;exact H
     clear H
     have H:=H1
     clear H1
     obtain ⟨y991,hy991⟩:∃ y_:List (S32),y_ = (([]:List (S32))):=⟨_,rfl⟩
     replace H:(if y991.length + t975.length < 8796093022208 then (laws_FnBackSame.l0 kj5 t974 t975 t976 t977 t982 t983 (y991 ++ t975) 0) else (none)) = some r:=by first | (rw [hy991];with_reducible exact H) | (have H2_:=(Option.bind_some _ _).symm.trans H;rw [hy991];with_reducible exact H2_) | (have H2_:=(Option.bind_some _ _).symm.trans H;with_reducible exact H2_) | with_reducible exact H | (rw [hy991];exact H) | exact H
     have Ny991:=Aside0.mk hy991
     clear hy991
     by_cases c19:y991.length + t975.length < 8796093022208
     ·rw [if_pos c19] at H
      have LMc19:=Aside0.mk c19
      clear c19
      obtain ⟨y994,hy994⟩:∃ y_:List (S32),y_ = (y991 ++ t975):=⟨_,rfl⟩
      replace H:(laws_FnBackSame.l0 kj5 t974 t975 t976 t977 t982 t983 y994 0) = some r:=by first | (rw [hy994];with_reducible exact H) | (have H2_:=(Option.bind_some _ _).symm.trans H;rw [hy994];with_reducible exact H2_) | (have H2_:=(Option.bind_some _ _).symm.trans H;with_reducible exact H2_) | with_reducible exact H | (rw [hy994];exact H) | exact H
      have Ny994:=Aside0.mk hy994
      clear hy994
      have H':=Aside0.mk H
      clear H
      go_wp2_with (first | ((with_reducible refine gate_dst (N:=51) rfl ?_);refine Kd.R_lit k32 _ 32 ?hg (N:=51) ?hd (xs:=([]:List (S32))) (inner:=[]) (ok:=fun _=>True) (okp:=fun _=>True) ?hr ?hp (fun _ hk=>hk) trivial (Below.refl _ _) (Nat.le_refl _) (by simp) ?_;(case hd=>rfl);(case hg=>rfl);(case hr=>first | (go_simp;done) | (go_simp;rfl));(case hp=>exact (Reps.none _ _));intro v992 w20 ho21 hb hg_ hnew_;clear hg_ hnew_;(first | rw [← Ny991.out] at ho21 | (simp only [Int.reduceToNat] at ho21;rw [← Ny991.out] at ho21));have n0_:=Aside0.mk (Kd.S_below (by (with_reducible repeat (first | apply Kd.S_alloc | apply Kd.S_drewN | apply Kd.S_drew));exact HO_3.out) hb);have n1_:=Aside0.mk (Kd.R_elder' (by (with_reducible repeat (first | apply Kd.R_alloc | apply Kd.R_drewN | apply Kd.R_drew));exact HO_4.out) (Kd.R_base ho21) hb);have n2_:=Aside0.mk (Kd.R_elder' (by (with_reducible repeat (first | apply Kd.R_alloc | apply Kd.R_drewN | apply Kd.R_drew));exact HO_7.out) (Kd.R_base ho21) hb);have n3_:=Aside0.mk (Kd.R_lower (Kd.R_new' (Kd.R_new' ho21 (Kd.R_lt (by (with_reducible repeat (first | apply Kd.R_alloc | apply Kd.R_drewN | apply Kd.R_drew));exact HO_4.out))) (Kd.R_lt (by (with_reducible repeat (first | apply Kd.R_alloc | apply Kd.R_drewN | apply Kd.R_drew));exact HO_7.out))) (below_size (by repeat (first | (with_reducible first | exact HB.out | apply below_alloc | apply pw_below_drewN | apply below_drew1) | exact HB.out))));have n4_:=Aside0.mk (below_step (by repeat (first | (with_reducible first | exact HB.out | apply below_alloc | apply pw_below_drewN | apply below_drew1) | exact HB.out)) hb);clear HO_3;clear HO_4;clear HO_7;clear HB;have HO_3:=n0_;have HO_4:=n1_;have HO_7:=n2_;have HO993:=n3_;have HB:=n4_;clear n0_ n1_ n2_ n3_ n4_;clear hb ho21) | ((with_reducible refine gate_builtin (b:=.append) (xs:=#[.tmp 51,.tmp 52]) rfl ?_);at_builtin;refine Kd.R_append_rows k32 (w0:=w) w.heap.size rfl (.tmp 51) (.tmp 52) 24 32 (.agg #[(.int .i64 0),(.int .i64 0)]) 16 rfl Try.underlying24 info32 rfl (by decide) (by omega) v992 y991 t975 _ _ _ (fun k_=>some k_ ≠ (.slice Ao9 t975.length co9:Value).ownBlock∧some k_ ≠ (v984:Value).ownBlock) (fun _=>False) rfl rfl ?aO ?aR (fun _ _ h=>h) (fun _ h=>h.elim) ?aF ?aB ?aS ?aL ?_;(case aR=>repeat (first | exact (Kd.R_reads' HO_4.out).2.2 | (with_reducible refine Kd.C_alloc ?_ _) | (with_reducible refine Kd.C_drewN ?_ _) | (with_reducible refine Kd.C_drew ?_)));(case aB=>exact (by repeat (first | (with_reducible first | exact HB.out | apply below_alloc | apply pw_below_drewN | apply below_drew1) | exact HB.out)));(case aF=>exact (fun k_ hk=>⟨Kd.fresh' (Kd.R_lt (by (with_reducible repeat (first | apply Kd.R_alloc | apply Kd.R_drewN | apply Kd.R_drew));exact HO_4.out)) k_ hk,Kd.fresh' (Kd.R_lt (by (with_reducible repeat (first | apply Kd.R_alloc | apply Kd.R_drewN | apply Kd.R_drew));exact HO_7.out)) k_ hk⟩));(case aO=>exact (by (with_reducible repeat (first | apply Kd.R_alloc | apply Kd.R_drewN | apply Kd.R_drew));exact Kd.R_mono HO993.out (fun _ hk=>⟨hk.1.2,hk.2⟩)));(case aS=>exact (below_size (by repeat (first | (with_reducible first | exact HB.out | apply below_alloc | apply pw_below_drewN | apply below_drew1) | exact HB.out))));(case aL=>have:=LMc19.out;omega);intro v995 w22 ho hb hg hat;rw [← Ny994.out] at ho;have n0_:=Aside0.mk (Kd.S_over' (by (with_reducible repeat (first | apply Kd.S_alloc | apply Kd.S_drewN | apply Kd.S_drew));exact HO_3.out) (Kd.R_typed (by (with_reducible repeat (first | apply Kd.R_alloc | apply Kd.R_drewN | apply Kd.R_drew));exact HO993.out)) (by decide) hg);have n1_:=Aside0.mk (Kd.R_after (ok:=(fun k_=>some k_ ≠ (v984:Value).ownBlock)) (by (with_reducible repeat (first | apply Kd.R_alloc | apply Kd.R_drewN | apply Kd.R_drew));exact HO_4.out) hg hat);have n2_:=Aside0.mk (Kd.R_after (ok:=(fun k_=>some k_ ≠ (.slice Ao9 t975.length co9:Value).ownBlock)) (by (with_reducible repeat (first | apply Kd.R_alloc | apply Kd.R_drewN | apply Kd.R_drew));exact HO_7.out) hg hat);have n3_:=Aside0.mk (hb);have n4_:=Aside0.mk (ho);clear HO_3;clear HO_4;clear HO_7;clear HB;clear HO993;have HO_3:=n0_;have HO_4:=n1_;have HO_7:=n2_;have HB:=n3_;have HO996:=n4_;clear n0_ n1_ n2_ n3_ n4_;clear ho hb hg hat))
      go_loopg [11,12] kj5 (fun kq v11 v12 w'=>∃ (x4_2:List (S32)) (x7_2:List (S32)) (x11_2:List (S32)) (x12_2:Int),v12 = .int .i64 x12_2∧Aside0 (laws_FnBackSame.l0 kq t974 x4_2 t976 t977 x7_2 t983 x11_2 x12_2 = some r)∧Aside0 (kq ≤ kj5)∧Aside0 (Kd.S (Kd.slice 3 (Kd.int .i64)) 27 w' w.heap.size (fun _=>True) (.slice Ao8 t974.length co8) t974)∧Aside0 (Kd.R k32 32 w' w.heap.size (fun k_=>some k_ ≠ (v984:Value).ownBlock∧some k_ ≠ (v11:Value).ownBlock) (.slice Ao9 t975.length co9) x4_2)∧Aside0 (Kd.R k32 32 w' w.heap.size (fun k_=>some k_ ≠ ((.slice Ao9 t975.length co9):Value).ownBlock∧some k_ ≠ (v11:Value).ownBlock) v984 x7_2)∧Aside0 (Kd.R k32 32 w' w.heap.size (fun k_=>some k_ ≠ ((.slice Ao9 t975.length co9):Value).ownBlock∧some k_ ≠ (v984:Value).ownBlock) v11 x11_2)∧Aside0 (Below w.heap.size w w'))
      case atStart=>exact ⟨(t975),(t982),(y994),(0),(by first | rfl | (simp;done) | (simp [*];done)),H',⟨Nat.le_refl _⟩,⟨by (with_reducible repeat (first | apply Kd.S_alloc | apply Kd.S_drewN | apply Kd.S_drew));exact HO_3.out⟩,⟨by (with_reducible repeat (first | apply Kd.R_alloc | apply Kd.R_drewN | apply Kd.R_drew));exact HO_4.out⟩,⟨by (with_reducible repeat (first | apply Kd.R_alloc | apply Kd.R_drewN | apply Kd.R_drew));exact HO_7.out⟩,⟨by (with_reducible repeat (first | apply Kd.R_alloc | apply Kd.R_drewN | apply Kd.R_drew));exact HO996.out⟩,⟨by repeat (first | (with_reducible first | exact HB.out | apply below_alloc | apply pw_below_drewN | apply below_drew1) | exact HB.out)⟩⟩
      case round =>
       clear H'
       try clear c1
       try clear c2
       try clear c2b0
       try clear c2b1
       try clear p2
       try clear c3
       try clear c4
       try clear c13
       try clear c17
       try clear c18
       try clear c19
       try clear p2
       obtain ⟨x4_2,x7_2,x11_2,x12_2,rfl,HA,HK2,HO_3,HO_4,HO_7,HO_11,HB⟩:=hrel
       have hl4_2:=(Kd.R_reads' HO_4.out).1
       rw [hl4_2] at HO_4
       (try simp only [hl4_2])
       (try simp only [hl4_2] at HO_3)
       (try simp only [hl4_2] at HO_7)
       (try simp only [hl4_2] at HO_11)
       cases gk with
       | zero=>exact absurd HA.out (by simp [laws_FnBackSame.l0])
       | succ k2 =>
        have H:=HA.out
        clear HA
        simp only [laws_FnBackSame.l0] at H
        by_cases c23:(wrap64 (x12_2 + 1)) < (x11_2.length:Int)
        ·rw [if_pos c23] at H
         have c23b0:decide ((wrap64 (x12_2 + 1)) < (x11_2.length:Int)) = true:=decide_eq_true c23
         clear c23
         obtain ⟨y997,hy997⟩:∃ y_:List (S32),y_ = (([]:List (S32))):=⟨_,rfl⟩
         replace H:(if y997.length + x11_2.length < 8796093022208 then ((some (y997 ++ x11_2:List (S32))).bind fun y1000=>(if 0 ≤ (wrap64 (x12_2 + 1)) then (if (wrap64 (x12_2 + 1)) < (y1000.length:Int) then (if 0 ≤ x12_2 then (if x12_2 < (y1000.length:Int) then ((some ((y1000.set (x12_2:Int).toNat (⟨(rd_T32 y1000 (wrap64 (x12_2 + 1))).f0,(rd_T32 y1000 (wrap64 (x12_2 + 1))).f1⟩:S32)).set ((wrap64 (x12_2 + 1)):Int).toNat (⟨(rd_T32 y1000 x12_2).f0,(rd_T32 y1000 x12_2).f1⟩:S32):List (S32))).bind fun y1006=>((impl_HistorySame.f k2 t974 x4_2 y1006).bind fun t1007=>(if t1007 = true then (laws_FnBackSame.l0 k2 t974 x4_2 t976 t977 x7_2 t983 y1006 (wrap64 (x12_2 + 1))) else (laws_FnBackSame.l0 k2 t974 x4_2 t976 t977 x7_2 t983 x11_2 (wrap64 (x12_2 + 1)))))) else (none)) else (none)) else (none)) else (none))) else (none)) = some r:=by first | (rw [hy997];with_reducible exact H) | (have H2_:=(Option.bind_some _ _).symm.trans H;rw [hy997];with_reducible exact H2_) | (have H2_:=(Option.bind_some _ _).symm.trans H;with_reducible exact H2_) | with_reducible exact H | (rw [hy997];exact H) | exact H
         have Ny997:=Aside0.mk hy997
         clear hy997
         by_cases c24:y997.length + x11_2.length < 8796093022208
         ·rw [if_pos c24] at H
          have LMc24:=Aside0.mk c24
          clear c24
          obtain ⟨y1000,hy1000⟩:∃ y_:List (S32),y_ = (y997 ++ x11_2):=⟨_,rfl⟩
          replace H:(if 0 ≤ (wrap64 (x12_2 + 1)) then (if (wrap64 (x12_2 + 1)) < (y1000.length:Int) then (if 0 ≤ x12_2 then (if x12_2 < (y1000.length:Int) then ((some ((y1000.set (x12_2:Int).toNat (⟨(rd_T32 y1000 (wrap64 (x12_2 + 1))).f0,(rd_T32 y1000 (wrap64 (x12_2 + 1))).f1⟩:S32)).set ((wrap64 (x12_2 + 1)):Int).toNat (⟨(rd_T32 y1000 x12_2).f0,(rd_T32 y1000 x12_2).f1⟩:S32):List (S32))).bind fun y1006=>((impl_HistorySame.f k2 t974 x4_2 y1006).bind fun t1007=>(if t1007 = true then (laws_FnBackSame.l0 k2 t974 x4_2 t976 t977 x7_2 t983 y1006 (wrap64 (x12_2 + 1))) else (laws_FnBackSame.l0 k2 t974 x4_2 t976 t977 x7_2 t983 x11_2 (wrap64 (x12_2 + 1)))))) else (none)) else (none)) else (none)) else (none)) = some r:=by first | (rw [hy1000];with_reducible exact H) | (have H2_:=(Option.bind_some _ _).symm.trans H;rw [hy1000];with_reducible exact H2_) | (have H2_:=(Option.bind_some _ _).symm.trans H;with_reducible exact H2_) | with_reducible exact H | (rw [hy1000];exact H) | exact H
          have Ny1000:=Aside0.mk hy1000
          clear hy1000
          obtain ⟨ji25,hji25⟩:∃ j_:Int,(wrap64 (x12_2 + 1)) = j_:=⟨_,rfl⟩
          replace H:(if 0 ≤ (ji25) then (if (ji25) < (y1000.length:Int) then (if 0 ≤ x12_2 then (if x12_2 < (y1000.length:Int) then ((some ((y1000.set (x12_2:Int).toNat (⟨(rd_T32 y1000 (ji25)).f0,(rd_T32 y1000 (ji25)).f1⟩:S32)).set ((ji25):Int).toNat (⟨(rd_T32 y1000 x12_2).f0,(rd_T32 y1000 x12_2).f1⟩:S32):List (S32))).bind fun y1006=>((impl_HistorySame.f k2 t974 x4_2 y1006).bind fun t1007=>(if t1007 = true then (laws_FnBackSame.l0 k2 t974 x4_2 t976 t977 x7_2 t983 y1006 ji25) else (laws_FnBackSame.l0 k2 t974 x4_2 t976 t977 x7_2 t983 x11_2 ji25)))) else (none)) else (none)) else (none)) else (none)) = some r:=by first | (rw [hji25] at H;exact H) | (simp only [hji25] at H ⊢;exact H)
          (try rw [hji25] at c23b0)
          have hji25w:(IntKind.i64.wrap (x12_2 + 1)) = ji25:=(i64_w _).trans hji25
          by_cases c26:0 ≤ (ji25)
          ·rw [if_pos c26] at H
           have c26b0:decide (0 ≤ (ji25)) = true:=decide_eq_true c26
           clear c26
           by_cases c27:(ji25) < (y1000.length:Int)
           ·rw [if_pos c27] at H
            have c27b0:decide ((ji25) < (y1000.length:Int)) = true:=decide_eq_true c27
            clear c27
            by_cases c28:0 ≤ x12_2
            ·rw [if_pos c28] at H
             have c28b0:decide (0 ≤ x12_2) = true:=decide_eq_true c28
             clear c28
             by_cases c29:x12_2 < (y1000.length:Int)
             ·rw [if_pos c29] at H
              have c29b0:decide (x12_2 < (y1000.length:Int)) = true:=decide_eq_true c29
              clear c29
              obtain ⟨y1005,hy1005⟩:∃ y_:List (S32),y_ = (y1000.set (x12_2:Int).toNat (⟨(rd_T32 y1000 (ji25)).f0,(rd_T32 y1000 (ji25)).f1⟩:S32)):=⟨_,rfl⟩
              replace H:((some (y1005.set ((ji25):Int).toNat (⟨(rd_T32 y1000 x12_2).f0,(rd_T32 y1000 x12_2).f1⟩:S32):List (S32))).bind fun y1006=>((impl_HistorySame.f k2 t974 x4_2 y1006).bind fun t1007=>(if t1007 = true then (laws_FnBackSame.l0 k2 t974 x4_2 t976 t977 x7_2 t983 y1006 ji25) else (laws_FnBackSame.l0 k2 t974 x4_2 t976 t977 x7_2 t983 x11_2 ji25)))) = some r:=by first | (rw [hy1005];with_reducible exact H) | (have H2_:=(Option.bind_some _ _).symm.trans H;rw [hy1005];with_reducible exact H2_) | (have H2_:=(Option.bind_some _ _).symm.trans H;with_reducible exact H2_) | with_reducible exact H | (rw [hy1005];exact H) | exact H
              have Ny1005:=Aside0.mk hy1005
              clear hy1005
              obtain ⟨y1006,hy1006⟩:∃ y_:List (S32),y_ = (y1005.set ((ji25):Int).toNat (⟨(rd_T32 y1000 x12_2).f0,(rd_T32 y1000 x12_2).f1⟩:S32)):=⟨_,rfl⟩
              replace H:((impl_HistorySame.f k2 t974 x4_2 y1006).bind fun t1007=>(if t1007 = true then (laws_FnBackSame.l0 k2 t974 x4_2 t976 t977 x7_2 t983 y1006 ji25) else (laws_FnBackSame.l0 k2 t974 x4_2 t976 t977 x7_2 t983 x11_2 ji25))) = some r:=by first | (rw [hy1006];with_reducible exact H) | (have H2_:=(Option.bind_some _ _).symm.trans H;rw [hy1006];with_reducible exact H2_) | (have H2_:=(Option.bind_some _ _).symm.trans H;with_reducible exact H2_) | with_reducible exact H | (rw [hy1006];exact H) | exact H
              have Ny1006:=Aside0.mk hy1006
              clear hy1006
              replace H:=Option.bind_eq_some_iff.mp H
              obtain ⟨t1007,A320,H⟩:=H
              replace H:(if t1007 = true then (laws_FnBackSame.l0 k2 t974 x4_2 t976 t977 x7_2 t983 y1006 ji25) else (laws_FnBackSame.l0 k2 t974 x4_2 t976 t977 x7_2 t983 x11_2 ji25)) = some r:=H
              have A32:=Aside0.mk A320
              clear A320
              by_cases c33:t1007 = true
              ·subst c33
               have H1:(laws_FnBackSame.l0 k2 t974 x4_2 t976 t977 x7_2 t983 y1006 ji25) = some r:=by rw [if_pos rfl] at H;exact H
               clear H
               have H:=H1
               clear H1
               have H':=Aside0.mk H
               clear H
               obtain ⟨Ao34,co34,eo34⟩:=Kd.R_slice HO_11.out
               subst eo34
               try go_wp2_with (first | ((with_reducible refine gate_dst (N:=61) rfl ?_);refine Kd.R_lit k32 _ 32 ?hg (N:=61) ?hd (xs:=([]:List (S32))) (inner:=[]) (ok:=fun _=>True) (okp:=fun _=>True) ?hr ?hp (fun _ hk=>hk) trivial (Below.refl _ _) (Nat.le_refl _) (by simp) ?_;(case hd=>rfl);(case hg=>rfl);(case hr=>first | (go_simp;done) | (go_simp;rfl));(case hp=>exact (Reps.none _ _));intro v998 w35 ho36 hb hg_ hnew_;clear hg_ hnew_;(first | rw [← Ny997.out] at ho36 | (simp only [Int.reduceToNat] at ho36;rw [← Ny997.out] at ho36));have n0_:=Aside0.mk (Kd.S_below (by (with_reducible repeat (first | apply Kd.S_alloc | apply Kd.S_drewN | apply Kd.S_drew));exact HO_3.out) hb);have n1_:=Aside0.mk (Kd.R_elder' (by (with_reducible repeat (first | apply Kd.R_alloc | apply Kd.R_drewN | apply Kd.R_drew));exact HO_4.out) (Kd.R_base ho36) hb);have n2_:=Aside0.mk (Kd.R_elder' (by (with_reducible repeat (first | apply Kd.R_alloc | apply Kd.R_drewN | apply Kd.R_drew));exact HO_7.out) (Kd.R_base ho36) hb);have n3_:=Aside0.mk (Kd.R_elder' (by (with_reducible repeat (first | apply Kd.R_alloc | apply Kd.R_drewN | apply Kd.R_drew));exact HO_11.out) (Kd.R_base ho36) hb);have n4_:=Aside0.mk (Kd.R_lower (Kd.R_new' (Kd.R_new' (Kd.R_new' ho36 (Kd.R_lt (by (with_reducible repeat (first | apply Kd.R_alloc | apply Kd.R_drewN | apply Kd.R_drew));exact HO_4.out))) (Kd.R_lt (by (with_reducible repeat (first | apply Kd.R_alloc | apply Kd.R_drewN | apply Kd.R_drew));exact HO_7.out))) (Kd.R_lt (by (with_reducible repeat (first | apply Kd.R_alloc | apply Kd.R_drewN | apply Kd.R_drew));exact HO_11.out))) (below_size (by repeat (first | (with_reducible first | exact HB.out | apply below_alloc | apply pw_below_drewN | apply below_drew1) | exact HB.out))));have n5_:=Aside0.mk (below_step (by repeat (first | (with_reducible first | exact HB.out | apply below_alloc | apply pw_below_drewN | apply below_drew1) | exact HB.out)) hb);clear HO_3;clear HO_4;clear HO_7;clear HO_11;clear HB;have HO_3:=n0_;have HO_4:=n1_;have HO_7:=n2_;have HO_11:=n3_;have HO999:=n4_;have HB:=n5_;clear n0_ n1_ n2_ n3_ n4_ n5_;clear hb ho36) | ((with_reducible refine gate_builtin (b:=.append) (xs:=#[.tmp 61,.tmp 62]) rfl ?_);at_builtin;refine Kd.R_append_rows k32 (w0:=w) w.heap.size rfl (.tmp 61) (.tmp 62) 24 32 (.agg #[(.int .i64 0),(.int .i64 0)]) 16 rfl Try.underlying24 info32 rfl (by decide) (by omega) v998 y997 x11_2 _ _ _ (fun k_=>some k_ ≠ (.slice Ao9 x4_2.length co9:Value).ownBlock∧some k_ ≠ (v984:Value).ownBlock∧some k_ ≠ (.slice Ao34 x11_2.length co34:Value).ownBlock) (fun _=>False) rfl rfl ?aO ?aR (fun _ _ h=>h) (fun _ h=>h.elim) ?aF ?aB ?aS ?aL ?_;(case aR=>repeat (first | exact (Kd.R_reads' HO_11.out).2.2 | (with_reducible refine Kd.C_alloc ?_ _) | (with_reducible refine Kd.C_drewN ?_ _) | (with_reducible refine Kd.C_drew ?_)));(case aB=>exact (by repeat (first | (with_reducible first | exact HB.out | apply below_alloc | apply pw_below_drewN | apply below_drew1) | exact HB.out)));(case aF=>exact (fun k_ hk=>⟨Kd.fresh' (Kd.R_lt (by (with_reducible repeat (first | apply Kd.R_alloc | apply Kd.R_drewN | apply Kd.R_drew));exact HO_4.out)) k_ hk,Kd.fresh' (Kd.R_lt (by (with_reducible repeat (first | apply Kd.R_alloc | apply Kd.R_drewN | apply Kd.R_drew));exact HO_7.out)) k_ hk,Kd.fresh' (Kd.R_lt (by (with_reducible repeat (first | apply Kd.R_alloc | apply Kd.R_drewN | apply Kd.R_drew));exact HO_11.out)) k_ hk⟩));(case aO=>exact (by (with_reducible repeat (first | apply Kd.R_alloc | apply Kd.R_drewN | apply Kd.R_drew));exact Kd.R_mono HO999.out (fun _ hk=>⟨hk.1.1.2,⟨hk.1.2,hk.2⟩⟩)));(case aS=>exact (below_size (by repeat (first | (with_reducible first | exact HB.out | apply below_alloc | apply pw_below_drewN | apply below_drew1) | exact HB.out))));(case aL=>have:=LMc24.out;omega);intro v1001 w37 ho hb hg hat;rw [← Ny1000.out] at ho;have n0_:=Aside0.mk (Kd.S_over' (by (with_reducible repeat (first | apply Kd.S_alloc | apply Kd.S_drewN | apply Kd.S_drew));exact HO_3.out) (Kd.R_typed (by (with_reducible repeat (first | apply Kd.R_alloc | apply Kd.R_drewN | apply Kd.R_drew));exact HO999.out)) (by decide) hg);have n1_:=Aside0.mk (Kd.R_after (ok:=(fun k_=>some k_ ≠ (v984:Value).ownBlock∧some k_ ≠ (.slice Ao34 x11_2.length co34:Value).ownBlock)) (by (with_reducible repeat (first | apply Kd.R_alloc | apply Kd.R_drewN | apply Kd.R_drew));exact HO_4.out) hg hat);have n2_:=Aside0.mk (Kd.R_after (ok:=(fun k_=>some k_ ≠ (.slice Ao9 x4_2.length co9:Value).ownBlock∧some k_ ≠ (.slice Ao34 x11_2.length co34:Value).ownBlock)) (by (with_reducible repeat (first | apply Kd.R_alloc | apply Kd.R_drewN | apply Kd.R_drew));exact HO_7.out) hg hat);have n3_:=Aside0.mk (Kd.R_after (ok:=(fun k_=>some k_ ≠ (.slice Ao9 x4_2.length co9:Value).ownBlock∧some k_ ≠ (v984:Value).ownBlock)) (by (with_reducible repeat (first | apply Kd.R_alloc | apply Kd.R_drewN | apply Kd.R_drew));exact HO_11.out) hg hat);have n4_:=Aside0.mk (hb);have n5_:=Aside0.mk (ho);clear HO_3;clear HO_4;clear HO_7;clear HO_11;clear HB;clear HO999;have HO_3:=n0_;have HO_4:=n1_;have HO_7:=n2_;have HO_11:=n3_;have HB:=n4_;have HO1002:=n5_;clear n0_ n1_ n2_ n3_ n4_ n5_;clear ho hb hg hat))
               have n0_:=Aside0.mk (Kd.S_drew HO_3.out)
               have n1_:=Aside0.mk (Kd.R_drew HO_4.out)
               have n2_:=Aside0.mk (Kd.R_drew HO_7.out)
               have n3_:=Aside0.mk (Kd.R_drew HO_11.out)
               have n4_:=Aside0.mk (Kd.R_drew HO1002.out)
               have n5_:=Aside0.mk (below_drew1 HB.out)
               clear HO_3
               clear HO_4
               clear HO_7
               clear HO_11
               clear HO1002
               clear HB
               have HO_3:=n0_
               have HO_4:=n1_
               have HO_7:=n2_
               have HO_11:=n3_
               have HO1002:=n4_
               have HB:=n5_
               clear n0_ n1_ n2_ n3_ n4_ n5_
               obtain ⟨Ao39,co39,eo39⟩:=Kd.R_slice HO1002.out
               (first | subst eo39 | (injection eo39 with f1_ f2_ f3_;have f4_:=f1_.symm;have f5_:=f3_.symm;clear f1_ f2_ f3_;subst f4_;subst f5_))
               have p1003:0 ≤ ((ji25):Int):=of_decide_eq_true (by first | (with_reducible assumption) | assumption)
               have q1003:(ji25) < (y1000.length:Int):=of_decide_eq_true (by first | (with_reducible assumption) | assumption)
               obtain ⟨ad1003,e1003,hx1003_0,hx1003_1⟩:=at_T32 (Kd.R_reads' HO1002.out).2.2 (ji25) p1003 q1003
               cases e1003
               replace p1003:=eq_true p1003
               replace q1003:=eq_true q1003
               have p1004:0 ≤ (x12_2:Int):=of_decide_eq_true (by first | (with_reducible assumption) | assumption)
               have q1004:x12_2 < (y1000.length:Int):=of_decide_eq_true (by first | (with_reducible assumption) | assumption)
               obtain ⟨ad1004,e1004,hx1004_0,hx1004_1⟩:=at_T32 (Kd.R_reads' HO1002.out).2.2 x12_2 p1004 q1004
               obtain rfl:ad1003 = ad1004:=(by injection e1004)
               replace p1004:=eq_true p1004
               replace q1004:=eq_true q1004
               have p30:0 ≤ (x12_2:Int):=of_decide_eq_true (by first | (with_reducible assumption) | assumption)
               have q30:(x12_2:Int) < ((y1000.length:Int):Int):=of_decide_eq_true (by first | (with_reducible assumption) | assumption)
               obtain ⟨go30,co30,eo30,gb30,gl30,cl30,HG30⟩:=Kd.R_form HO1002.out (by omega)
               (first | cases eo30 | (injection eo30 with ea_ en_ ec_;(first | subst ea_ | (injection ea_ with ea_;subst ea_));subst ec_;clear en_))
               have GB30:=Aside0.mk gb30
               have GG30:=Aside0.mk HG30
               clear gb30 gl30 HG30
               (first | simp only [add_plain] at hx1003_0 | skip)
               (first | simp only [add_plain] at hx1003_1 | skip)
               (first | simp only [add_plain] at hx1004_0 | skip)
               (first | simp only [add_plain] at hx1004_1 | skip)
               obtain ⟨ce30,hcl30,hM30,hcc30,hfr30⟩:=Kd.R_elem HO1002.out z32 (x12_2:Int) p30 q30
               obtain rfl:=k32_openM hM30
               have hx30_0:World.cell? _ ⟨go30,(x12_2:Int).toNat * 2,none⟩ = some (.int .i64 ((rd_T32 y1000 x12_2).f0)):=hcc30 0 _ rfl
               have hx30_1:World.cell? _ ⟨go30,(x12_2:Int).toNat * 2 + 1,none⟩ = some (.int .i64 ((rd_T32 y1000 x12_2).f1)):=hcc30 1 _ rfl
               have hf30_0:World.frozen? _ ⟨go30,(x12_2:Int).toNat * 2,none⟩ = false:=hfr30 0
               have hf30_1:World.frozen? _ ⟨go30,(x12_2:Int).toNat * 2 + 1,none⟩ = false:=hfr30 1
               clear hcl30 hcc30 hfr30;(try clear hM30)
               replace p30:=eq_true p30
               replace q30:=eq_true q30
               obtain ⟨ce40,hcl40,hM40,hcc40,hfr40⟩:=Kd.R_elem HO1002.out z32 (x12_2:Int) (of_decide_eq_true (by first | (with_reducible assumption) | assumption)) (by have h_:(x12_2:Int) < ((y1000.length:Int):Int):=of_decide_eq_true (by first | (with_reducible assumption) | assumption);first | exact h_ | (have e_:=(Kd.R_reads' HO1002.out).1;omega) | simpa using h_)
               obtain rfl:=k32_openM hM40
               have HP40:=(Kd.R_seg HO1002.out (x12_2:Int) (of_decide_eq_true (by first | (with_reducible assumption) | assumption)) (by have h_:(x12_2:Int) < ((y1000.length:Int):Int):=of_decide_eq_true (by first | (with_reducible assumption) | assumption);first | exact h_ | (have e_:=(Kd.R_reads' HO1002.out).1;omega) | simpa using h_) (seg:=[.int .i64 ((rd_T32 y1000 (ji25)).f0),.int .i64 ((rd_T32 y1000 (ji25)).f1)]) (j:=0) hcl40 hcc40 (show 2 ≤ 2 from by decide) (x':=(⟨(rd_T32 y1000 (ji25)).f0,(rd_T32 y1000 (ji25)).f1⟩:S32)) (k32_mkM _ _ _ (⟨(rd_T32 y1000 (ji25)).f0,(rd_T32 y1000 (ji25)).f1⟩:S32) ) (fun _ hk=>hk)).1
               rw [← Ny1005.out] at HP40
               have HQ40:=Aside0.mk HP40
               clear hcl40 hcc40 hfr40;(try clear hM40);clear HP40
               have p31:0 ≤ ((ji25):Int):=of_decide_eq_true (by first | (with_reducible assumption) | assumption)
               have q31:((ji25):Int) < ((y1000.length:Int):Int):=of_decide_eq_true (by first | (with_reducible assumption) | assumption)
               obtain ⟨ce31,hcl31,hM31,hcc31,hfr31⟩:=Kd.R_elem HQ40.out z32 ((ji25):Int) p31 q31
               obtain rfl:=k32_openM hM31
               have hx31_0:World.cell? _ ⟨go30,((ji25):Int).toNat * 2,none⟩ = some (.int .i64 ((rd_T32 y1005 (ji25)).f0)):=hcc31 0 _ rfl
               have hx31_1:World.cell? _ ⟨go30,((ji25):Int).toNat * 2 + 1,none⟩ = some (.int .i64 ((rd_T32 y1005 (ji25)).f1)):=hcc31 1 _ rfl
               have hf31_0:World.frozen? _ ⟨go30,((ji25):Int).toNat * 2,none⟩ = false:=hfr31 0
               have hf31_1:World.frozen? _ ⟨go30,((ji25):Int).toNat * 2 + 1,none⟩ = false:=hfr31 1
               clear hcl31 hcc31 hfr31;(try clear hM31)
               replace p31:=eq_true p31
               replace q31:=eq_true q31
               obtain ⟨ce41,hcl41,hM41,hcc41,hfr41⟩:=Kd.R_elem HQ40.out z32 ((ji25):Int) (of_decide_eq_true (by first | (with_reducible assumption) | assumption)) (by have h_:((ji25):Int) < ((y1000.length:Int):Int):=of_decide_eq_true (by first | (with_reducible assumption) | assumption);first | exact h_ | (have e_:=(Kd.R_reads' HO1002.out).1;omega) | simpa using h_)
               obtain rfl:=k32_openM hM41
               have HP41:=(Kd.R_seg HQ40.out ((ji25):Int) (of_decide_eq_true (by first | (with_reducible assumption) | assumption)) (by have h_:((ji25):Int) < ((y1000.length:Int):Int):=of_decide_eq_true (by first | (with_reducible assumption) | assumption);first | exact h_ | (have e_:=(Kd.R_reads' HO1002.out).1;omega) | simpa using h_) (seg:=[.int .i64 ((rd_T32 y1000 x12_2).f0),.int .i64 ((rd_T32 y1000 x12_2).f1)]) (j:=0) hcl41 hcc41 (show 2 ≤ 2 from by decide) (x':=(⟨(rd_T32 y1000 x12_2).f0,(rd_T32 y1000 x12_2).f1⟩:S32)) (k32_mkM _ _ _ (⟨(rd_T32 y1000 x12_2).f0,(rd_T32 y1000 x12_2).f1⟩:S32) ) (fun _ hk=>hk)).1
               rw [← Ny1006.out] at HP41
               have HQ41:=Aside0.mk HP41
               clear hcl41 hcc41 hfr41;(try clear hM41);clear HP41
               refine start_ (n:=18) (S:=fun w'=>w'.cell? (⟨go30,(((ji25)).toNat * 2),none⟩:Addr) = some (.int .i64 ((rd_T32 y1000 (ji25)).f0))∧w'.cell? ⟨go30,(((ji25)).toNat * 2) + 1,none⟩ = some (.int .i64 ((rd_T32 y1000 (ji25)).f1))∧w'.cell? ⟨go30,((x12_2).toNat * 2),none⟩ = some (.int .i64 ((rd_T32 y1000 x12_2).f0))∧w'.cell? ⟨go30,((x12_2).toNat * 2) + 1,none⟩ = some (.int .i64 ((rd_T32 y1000 x12_2).f1))) (ds:=[15,17]) #[false,false,false,false,false,false,false,false,false,false,false,false,false,false,false,false,false,false] (by kernel_rfl) rfl rfl ⟨hx1003_0,hx1003_1,hx1004_0,hx1004_1⟩ (fun hHeld=>?_);refine with_tabW laws_FnBackSame.tab13 laws_FnBackSame.bits13 (fun HT_ HW_=>?_)
               generalize w37.drew = w38 at HO_3 HO_4 HO_7 HO_11 HO1002 HB GG30 HQ40 HQ41 hf30_0 hf30_1 hf31_0 hf31_1 hx1003_0 hx1003_1 hx1004_0 hx1004_1 hx30_0 hx30_1 hx31_0 hx31_1 hHeld ⊢
               refine pure_ (i:=0) (N:=some 64) (v:=?_) (a':=?_) #[true,false,false,false,false,false,false,false,false,false,false,false,false,false,false,false,false,false] rfl rfl (any_of HT_.out (by kernel_rfl)) (fun _ _ _ h=>h) (Or.inl ⟨by rfl,?_⟩) ?_ ?_
               rotate_left;·intro w';go_simp;with_reducible rfl
               rotate_left;·simp only [Act.put,List.setIfInBounds_toArray,List.set_cons_zero,List.set_cons_succ,i64_w,i32_w];rfl
               refine pure_ (i:=1) (N:=some 65) (v:=?_) (a':=?_) #[true,true,false,false,false,false,false,false,false,false,false,false,false,false,false,false,false,false] rfl rfl (any_of HT_.out (by kernel_rfl)) (fun _ _ _ h=>h) (Or.inl ⟨by rfl,?_⟩) ?_ ?_
               rotate_left;·intro w';go_simp;with_reducible rfl
               rotate_left;·simp only [Act.put,List.setIfInBounds_toArray,List.set_cons_zero,List.set_cons_succ,i64_w,i32_w];rfl
               refine pure_ (i:=2) (N:=some 66) (v:=?_) (a':=?_) #[true,true,true,false,false,false,false,false,false,false,false,false,false,false,false,false,false,false] rfl rfl (any_of HT_.out (by kernel_rfl)) (fun _ _ _ h=>h) (Or.inl ⟨by rfl,?_⟩) ?_ ?_
               rotate_left;·intro w';go_simp;with_reducible rfl
               rotate_left;·simp only [Act.put,List.setIfInBounds_toArray,List.set_cons_zero,List.set_cons_succ,i64_w,i32_w];rfl
               refine pure_ (i:=3) (N:=some 67) (v:=?_) (a':=?_) #[true,true,true,true,false,false,false,false,false,false,false,false,false,false,false,false,false,false] rfl rfl (any_of HT_.out (by kernel_rfl)) (fun _ _ _ h=>h) (Or.inl ⟨by rfl,?_⟩) ?_ ?_
               rotate_left;·intro w';go_simp;with_reducible rfl
               rotate_left;·simp only [Act.put,List.setIfInBounds_toArray,List.set_cons_zero,List.set_cons_succ,i64_w,i32_w];rfl
               refine pure_ (i:=4) (N:=some 68) (v:=?_) (a':=?_) #[true,true,true,true,true,false,false,false,false,false,false,false,false,false,false,false,false,false] rfl rfl (any_of HT_.out (by kernel_rfl)) (fun _ _ _ h=>h) (Or.inl ⟨by rfl,?_⟩) ?_ ?_
               rotate_left;·intro w';go_simp;with_reducible rfl
               rotate_left;·simp only [Act.put,List.setIfInBounds_toArray,List.set_cons_zero,List.set_cons_succ,i64_w,i32_w];rfl
               refine pure_ (i:=5) (N:=some 69) (v:=?_) (a':=?_) #[true,true,true,true,true,true,false,false,false,false,false,false,false,false,false,false,false,false] rfl rfl (any_of HT_.out (by kernel_rfl)) (fun _ _ _ h=>h) (Or.inl ⟨by rfl,?_⟩) ?_ ?_
               rotate_left;·intro w';go_simp;with_reducible rfl
               rotate_left;·simp only [Act.put,List.setIfInBounds_toArray,List.set_cons_zero,List.set_cons_succ,i64_w,i32_w];rfl
               refine pure_ (i:=6) (N:=some 70) (v:=?_) (a':=?_) #[true,true,true,true,true,true,true,false,false,false,false,false,false,false,false,false,false,false] rfl rfl (any_of HT_.out (by kernel_rfl)) (fun _ _ _ h=>h) (Or.inl ⟨by rfl,?_⟩) ?_ ?_
               rotate_left;·intro w';go_simp;with_reducible rfl
               rotate_left;·simp only [Act.put,List.setIfInBounds_toArray,List.set_cons_zero,List.set_cons_succ,i64_w,i32_w];rfl
               refine pure_ (i:=7) (N:=some 71) (v:=?_) (a':=?_) #[true,true,true,true,true,true,true,true,false,false,false,false,false,false,false,false,false,false] rfl rfl (any_of HT_.out (by kernel_rfl)) (fun _ _ _ h=>h) (Or.inl ⟨by rfl,?_⟩) ?_ ?_
               rotate_left;·intro w';go_simp;with_reducible rfl
               rotate_left;·simp only [Act.put,List.setIfInBounds_toArray,List.set_cons_zero,List.set_cons_succ,i64_w,i32_w];rfl
               refine pure_ (i:=8) (N:=some 72) (v:=?_) (a':=?_) #[true,true,true,true,true,true,true,true,true,false,false,false,false,false,false,false,false,false] rfl rfl (any_of HT_.out (by kernel_rfl)) (fun _ _ _ h=>h) (Or.inl ⟨by rfl,?_⟩) ?_ ?_
               rotate_left;·intro w';go_simp;with_reducible rfl
               rotate_left;·simp only [Act.put,List.setIfInBounds_toArray,List.set_cons_zero,List.set_cons_succ,i64_w,i32_w];rfl
               refine pure_ (i:=10) (N:=some 74) (v:=?_) (a':=?_) #[true,true,true,true,true,true,true,true,true,false,true,false,false,false,false,false,false,false] rfl rfl (any_of HT_.out (by kernel_rfl)) (fun _ _ _ h=>h) (Or.inl ⟨by rfl,?_⟩) ?_ ?_
               rotate_left;·intro w';go_simp;with_reducible rfl
               rotate_left;·simp only [Act.put,List.setIfInBounds_toArray,List.set_cons_zero,List.set_cons_succ,i64_w,i32_w];rfl
               refine pure_ (i:=11) (N:=some 75) (v:=?_) (a':=?_) #[true,true,true,true,true,true,true,true,true,false,true,true,false,false,false,false,false,false] rfl rfl (any_of HT_.out (by kernel_rfl)) (fun _ _ _ h=>h) (Or.inl ⟨by rfl,?_⟩) ?_ ?_
               rotate_left;·intro w';go_simp;with_reducible rfl
               rotate_left;·simp only [Act.put,List.setIfInBounds_toArray,List.set_cons_zero,List.set_cons_succ,i64_w,i32_w];rfl
               refine pure_ (i:=12) (N:=some 76) (v:=?_) (a':=?_) #[true,true,true,true,true,true,true,true,true,false,true,true,true,false,false,false,false,false] rfl rfl (any_of HT_.out (by kernel_rfl)) (fun _ _ _ h=>h) (Or.inl ⟨by rfl,?_⟩) ?_ ?_
               rotate_left;·intro w';go_simp;with_reducible rfl
               rotate_left;·simp only [Act.put,List.setIfInBounds_toArray,List.set_cons_zero,List.set_cons_succ,i64_w,i32_w];rfl
               refine take_ (i:=9) (N:=some 73) (v:=?_) (a':=?_) #[true,true,true,true,true,true,true,true,true,true,true,true,true,false,false,false,false,false] rfl rfl (take_ofW HT_.out HW_.out (by kernel_rfl)) (fun _ _ _ h=>h) (Or.inl ⟨by rfl,?_⟩) hHeld ?_ ?_
               rotate_left;·rintro w' ⟨s0,s1,s2,s3⟩;go_simp;with_reducible rfl
               rotate_left;·simp only [Act.put,List.setIfInBounds_toArray,List.set_cons_zero,List.set_cons_succ,i64_w,i32_w];rfl
               refine take_ (i:=13) (N:=some 77) (v:=?_) (a':=?_) #[true,true,true,true,true,true,true,true,true,true,true,true,true,true,false,false,false,false] rfl rfl (take_ofW HT_.out HW_.out (by kernel_rfl)) (fun _ _ _ h=>h) (Or.inl ⟨by rfl,?_⟩) hHeld ?_ ?_
               rotate_left;·rintro w' ⟨s0,s1,s2,s3⟩;go_simp;with_reducible rfl
               rotate_left;·simp only [Act.put,List.setIfInBounds_toArray,List.set_cons_zero,List.set_cons_succ,i64_w,i32_w];rfl
               refine pure_ (i:=14) (N:=some 78) (v:=?_) (a':=?_) #[true,true,true,true,true,true,true,true,true,true,true,true,true,true,true,false,false,false] rfl rfl (any_of HT_.out (by kernel_rfl)) (fun _ _ _ h=>h) (Or.inl ⟨by rfl,?_⟩) ?_ ?_
               rotate_left;·intro w';go_simp;with_reducible rfl
               rotate_left;·simp only [Act.put,List.setIfInBounds_toArray,List.set_cons_zero,List.set_cons_succ,i64_w,i32_w];rfl
               refine last_ (i:=15) (N:=none) #[true,true,true,true,true,true,true,true,true,true,true,true,true,true,true,true,false,false] rfl rfl (one_of HT_.out (by kernel_rfl)) (by decide) (fun K hK=>?_)
               refine skip_ (w1:=?_) (by rfl) rfl ?_ ?_
               rotate_left
               ·go_simp
                rfl
               refine hK.out _ _ ?_
               clear hK K
               refine pure_ (i:=16) (N:=some 79) (v:=?_) (a':=?_) #[true,true,true,true,true,true,true,true,true,true,true,true,true,true,true,true,true,false] rfl rfl (any_of HT_.out (by kernel_rfl)) (fun _ _ _ h=>h) (Or.inl ⟨by rfl,?_⟩) ?_ ?_
               rotate_left;·intro w';go_simp;with_reducible rfl
               rotate_left;·simp only [Act.put,List.setIfInBounds_toArray,List.set_cons_zero,List.set_cons_succ,i64_w,i32_w];rfl
               refine last_ (i:=17) (N:=none) #[true,true,true,true,true,true,true,true,true,true,true,true,true,true,true,true,true,true] rfl rfl (one_of HT_.out (by kernel_rfl)) (by decide) (fun K hK=>?_)
               refine skip_ (w1:=?_) (by rfl) rfl ?_ ?_
               rotate_left
               ·have fr0_:World.frozen? w38 ⟨go30,ji25.toNat * 2,none⟩ = false:=(World.frozen?_setCell _ _ _ _).symm.trans ((World.frozen?_setCell _ _ _ _).symm.trans hf31_0)
                have fr1_:World.frozen? w38 ⟨go30,ji25.toNat * 2 + 1,none⟩ = false:=(World.frozen?_setCell _ _ _ _).symm.trans ((World.frozen?_setCell _ _ _ _).symm.trans hf31_1)
                have ce0_:(World.setCell w38 ⟨go30,x12_2.toNat * 2,none⟩ (.int .i64 (rd_T32 y1000 ji25).f0)).cell? ⟨go30,ji25.toNat * 2,none⟩ = some (.int .i64 (rd_T32 y1000 ji25).f0):=by
                 by_cases e_:(⟨go30,x12_2.toNat * 2,none⟩:Addr) = ⟨go30,ji25.toNat * 2,none⟩
                 ·rw [← e_];exact World.cell?_setCell_same _ _ _ hx30_0
                 ·rw [World.cell?_setCell_other _ _ _ _ e_];exact hHeld.1
                have ce1_:((World.setCell w38 ⟨go30,x12_2.toNat * 2,none⟩ (.int .i64 (rd_T32 y1000 ji25).f0)).setCell ⟨go30,x12_2.toNat * 2 + 1,none⟩ (.int .i64 (rd_T32 y1000 ji25).f1)).cell? ⟨go30,ji25.toNat * 2 + 1,none⟩ = some (.int .i64 (rd_T32 y1000 ji25).f1):=by
                 by_cases e_:(⟨go30,x12_2.toNat * 2 + 1,none⟩:Addr) = ⟨go30,ji25.toNat * 2 + 1,none⟩
                 ·rw [← e_];exact World.cell?_setCell_same _ _ _ (by rw [World.cell?_setCell_other _ _ _ _ (by simp)];exact hx30_1)
                 ·rw [World.cell?_setCell_other _ _ _ _ e_,World.cell?_setCell_other _ _ _ _ (by intro h_;simp only [Addr.mk.injEq] at h_;omega)];exact hHeld.2.1
                go_simp
                rfl
               refine hK.out _ _ ?_
               clear hK K
               refine done_ (done_of HT_.out (by kernel_rfl)) ?_
               try go_wp2_with (first | ((with_reducible refine gate_callee (f:=45) rfl ?_);refine goesL_ (some 83) rfl rfl Try.func45 (by kernel_rfl) rfl #[.slice Ao8 t974.length co8,.slice Ao9 x4_2.length co9,.slice (some ⟨go30,0,none⟩) y1006.length co39] rfl (by (try simp only [List.map_toArray,List.map_cons,List.map_nil]);first | done | (rw [show y1006.length = y1000.length from (Kd.R_reads' HQ41.out).1.symm] <;> rfl) | rfl | (simp only [List.length_drop,List.length_take];rfl)) ?_;(with_reducible refine (impl_HistorySame.calls k2 _ _ t974 _ _ x4_2 _ _ y1006 true _ ?side1 ?side2 ?side3 ?side4 ?side5 ?side6 A32.out).mono ?_);(case side1=>refine (Kd.S_reads' (e:=27) (base:=w.heap.size) (ok:=fun k_=>True) (n:=t974.length) (c:=co8) ?_).2.2;exact (by (with_reducible repeat (first | apply Kd.S_alloc | apply Kd.S_drewN | apply Kd.S_drew));exact (Kd.S_mono (Kd.S_far (p:=⟨go30,((ji25):Int).toNat * 2 + 1,none⟩) (Kd.S_far (p:=⟨go30,((ji25):Int).toNat * 2,none⟩) (Kd.S_far (p:=⟨go30,(x12_2:Int).toNat * 2 + 1,none⟩) (Kd.S_far (p:=⟨go30,(x12_2:Int).toNat * 2,none⟩) (Kd.S_types HO_3.out GG30.out (by decide)) (fun _ hk=>hk.2) (.int .i64 ((rd_T32 y1000 (ji25)).f0))) (fun _ hk=>hk.2) (.int .i64 ((rd_T32 y1000 (ji25)).f1))) (fun _ hk=>hk.2) (.int .i64 ((rd_T32 y1000 x12_2).f0))) (fun _ hk=>hk.2) (.int .i64 ((rd_T32 y1000 x12_2).f1))) (fun _ h_=>h_.1))));(case side2=>exact (Kd.S_reads' HO_3.out).2.1);(case side3=>refine (Kd.R_reads' (e:=32) (base:=w.heap.size) (ok:=fun k_=>((some k_ ≠ (v984:Value).ownBlock∧some k_ ≠ (.slice Ao34 x11_2.length co34:Value).ownBlock)∧some k_ ≠ (.slice (some ⟨go30,0,none⟩) y1000.length co39:Value).ownBlock)) (n:=x4_2.length) (c:=co9) ?_).2.2;exact (by (with_reducible repeat (first | apply Kd.R_alloc | apply Kd.R_drewN | apply Kd.R_drew));exact (Kd.R_mono (Kd.R_far (p:=⟨go30,((ji25):Int).toNat * 2 + 1,none⟩) (Kd.R_far (p:=⟨go30,((ji25):Int).toNat * 2,none⟩) (Kd.R_far (p:=⟨go30,(x12_2:Int).toNat * 2 + 1,none⟩) (Kd.R_far (p:=⟨go30,(x12_2:Int).toNat * 2,none⟩) (Kd.R_mono HO_4.out (fun k_ hk=>(⟨hk,fun e_=>hk.2 (by rw [e_];rfl)⟩:_∧k_ ≠ go30))) (fun _ hk=>hk.2) (.int .i64 ((rd_T32 y1000 (ji25)).f0))) (fun _ hk=>hk.2) (.int .i64 ((rd_T32 y1000 (ji25)).f1))) (fun _ hk=>hk.2) (.int .i64 ((rd_T32 y1000 x12_2).f0))) (fun _ hk=>hk.2) (.int .i64 ((rd_T32 y1000 x12_2).f1))) (fun _ h_=>h_.1))));(case side4=>exact (Kd.R_reads' HO_4.out).2.1);(case side5=>refine (Kd.R_reads' (e:=32) (base:=w.heap.size) (ok:=fun k_=>(some k_ ≠ (.slice Ao9 x4_2.length co9:Value).ownBlock∧(some k_ ≠ (v984:Value).ownBlock∧some k_ ≠ (.slice Ao34 x11_2.length co34:Value).ownBlock))) (n:=y1000.length) (c:=co39) ?_).2.2;exact (by (with_reducible repeat (first | apply Kd.R_alloc | apply Kd.R_drewN | apply Kd.R_drew));exact HQ41.out));(case side6=>rw [show y1006.length = y1000.length from (Kd.R_reads' HQ41.out).1.symm];exact (Kd.R_reads' HO1002.out).2.1);rintro e w42 ⟨rfl,hb⟩;refine ⟨_,rfl,?_⟩;have n0_:=Aside0.mk (Kd.S_below (by (with_reducible repeat (first | apply Kd.S_alloc | apply Kd.S_drewN | apply Kd.S_drew));exact (Kd.S_mono (Kd.S_far (p:=⟨go30,((ji25):Int).toNat * 2 + 1,none⟩) (Kd.S_far (p:=⟨go30,((ji25):Int).toNat * 2,none⟩) (Kd.S_far (p:=⟨go30,(x12_2:Int).toNat * 2 + 1,none⟩) (Kd.S_far (p:=⟨go30,(x12_2:Int).toNat * 2,none⟩) (Kd.S_types HO_3.out GG30.out (by decide)) (fun _ hk=>hk.2) (.int .i64 ((rd_T32 y1000 (ji25)).f0))) (fun _ hk=>hk.2) (.int .i64 ((rd_T32 y1000 (ji25)).f1))) (fun _ hk=>hk.2) (.int .i64 ((rd_T32 y1000 x12_2).f0))) (fun _ hk=>hk.2) (.int .i64 ((rd_T32 y1000 x12_2).f1))) (fun _ h_=>h_.1))) hb);have n1_:=Aside0.mk (Kd.R_below (by (with_reducible repeat (first | apply Kd.R_alloc | apply Kd.R_drewN | apply Kd.R_drew));exact (Kd.R_mono (Kd.R_far (p:=⟨go30,((ji25):Int).toNat * 2 + 1,none⟩) (Kd.R_far (p:=⟨go30,((ji25):Int).toNat * 2,none⟩) (Kd.R_far (p:=⟨go30,(x12_2:Int).toNat * 2 + 1,none⟩) (Kd.R_far (p:=⟨go30,(x12_2:Int).toNat * 2,none⟩) (Kd.R_mono HO_4.out (fun k_ hk=>(⟨hk,fun e_=>hk.2 (by rw [e_];rfl)⟩:_∧k_ ≠ go30))) (fun _ hk=>hk.2) (.int .i64 ((rd_T32 y1000 (ji25)).f0))) (fun _ hk=>hk.2) (.int .i64 ((rd_T32 y1000 (ji25)).f1))) (fun _ hk=>hk.2) (.int .i64 ((rd_T32 y1000 x12_2).f0))) (fun _ hk=>hk.2) (.int .i64 ((rd_T32 y1000 x12_2).f1))) (fun _ h_=>h_.1))) hb);have n2_:=Aside0.mk (Kd.R_below (by (with_reducible repeat (first | apply Kd.R_alloc | apply Kd.R_drewN | apply Kd.R_drew));exact (Kd.R_mono (Kd.R_far (p:=⟨go30,((ji25):Int).toNat * 2 + 1,none⟩) (Kd.R_far (p:=⟨go30,((ji25):Int).toNat * 2,none⟩) (Kd.R_far (p:=⟨go30,(x12_2:Int).toNat * 2 + 1,none⟩) (Kd.R_far (p:=⟨go30,(x12_2:Int).toNat * 2,none⟩) (Kd.R_mono HO_7.out (fun k_ hk=>(⟨hk,fun e_=>hk.2 (by rw [e_];rfl)⟩:_∧k_ ≠ go30))) (fun _ hk=>hk.2) (.int .i64 ((rd_T32 y1000 (ji25)).f0))) (fun _ hk=>hk.2) (.int .i64 ((rd_T32 y1000 (ji25)).f1))) (fun _ hk=>hk.2) (.int .i64 ((rd_T32 y1000 x12_2).f0))) (fun _ hk=>hk.2) (.int .i64 ((rd_T32 y1000 x12_2).f1))) (fun _ h_=>h_.1))) hb);have n3_:=Aside0.mk (Kd.R_below (by (with_reducible repeat (first | apply Kd.R_alloc | apply Kd.R_drewN | apply Kd.R_drew));exact (Kd.R_mono (Kd.R_far (p:=⟨go30,((ji25):Int).toNat * 2 + 1,none⟩) (Kd.R_far (p:=⟨go30,((ji25):Int).toNat * 2,none⟩) (Kd.R_far (p:=⟨go30,(x12_2:Int).toNat * 2 + 1,none⟩) (Kd.R_far (p:=⟨go30,(x12_2:Int).toNat * 2,none⟩) (Kd.R_mono HO_11.out (fun k_ hk=>(⟨hk,fun e_=>hk.2 (by rw [e_];rfl)⟩:_∧k_ ≠ go30))) (fun _ hk=>hk.2) (.int .i64 ((rd_T32 y1000 (ji25)).f0))) (fun _ hk=>hk.2) (.int .i64 ((rd_T32 y1000 (ji25)).f1))) (fun _ hk=>hk.2) (.int .i64 ((rd_T32 y1000 x12_2).f0))) (fun _ hk=>hk.2) (.int .i64 ((rd_T32 y1000 x12_2).f1))) (fun _ h_=>h_.1))) hb);have n4_:=Aside0.mk (Kd.R_below (by (with_reducible repeat (first | apply Kd.R_alloc | apply Kd.R_drewN | apply Kd.R_drew));exact HQ41.out) hb);have n5_:=Aside0.mk (below_step (by repeat (first | (with_reducible first | exact HB.out | apply below_alloc | apply pw_below_drewN | apply below_drew1 | refine below_set ?_ GB30.out | refine below_set ?_ GB30.out | refine below_set ?_ GB30.out | refine below_set ?_ GB30.out) | exact HB.out)) hb);clear HO_3;clear HO_4;clear HO_7;clear HO_11;clear HO1002;clear HB;have HO_3:=n0_;have HO_4:=n1_;have HO_7:=n2_;have HO_11:=n3_;have HO1002:=n4_;have HB:=n5_;clear n0_ n1_ n2_ n3_ n4_ n5_;(try clear hb);(try clear hb2);(try clear hk);(try clear hi)))
               (try simp only [← hl4_2])
               go_roundg k2
               case measure=>have:=HJ5.out;have:=HK2.out;omega
               case rel=>exact ⟨(x4_2),(x7_2),(y1006),(ji25),(by first | rfl | (simp;done) | (simp only [← hji25] <;> (first | rfl | simp)) | (simp [*];done)),H',⟨by have:=HJ5.out;have:=HK2.out;omega⟩,⟨by (try simp only [hl4_2]);(with_reducible repeat (first | apply Kd.S_alloc | apply Kd.S_drewN | apply Kd.S_drew));exact HO_3.out⟩,⟨by (try simp only [hl4_2]);(with_reducible repeat (first | apply Kd.R_alloc | apply Kd.R_drewN | apply Kd.R_drew));exact Kd.R_mono HO_4.out (fun _ hk=>⟨hk.1.1,hk.2⟩)⟩,⟨by (try simp only [hl4_2]);(with_reducible repeat (first | apply Kd.R_alloc | apply Kd.R_drewN | apply Kd.R_drew));exact Kd.R_mono HO_7.out (fun _ hk=>⟨hk.1.1,hk.2⟩)⟩,⟨by (try simp only [hl4_2]);(with_reducible repeat (first | apply Kd.R_alloc | apply Kd.R_drewN | apply Kd.R_drew));exact Kd.R_mono HO1002.out (fun _ hk=>⟨hk.1,hk.2.1⟩)⟩,⟨by repeat (first | (with_reducible first | exact HB.out | apply below_alloc | apply pw_below_drewN | apply below_drew1) | exact HB.out)⟩⟩
              ·replace c33:=Bool.eq_false_iff.mpr c33
               subst c33
               have H1:(laws_FnBackSame.l0 k2 t974 x4_2 t976 t977 x7_2 t983 x11_2 ji25) = some r:=by rw [if_neg (show ¬ (false = true) by decide)] at H;exact H
               clear H
               have H:=H1
               clear H1
               have H':=Aside0.mk H
               clear H
               obtain ⟨Ao43,co43,eo43⟩:=Kd.R_slice HO_11.out
               subst eo43
               try go_wp2_with (first | ((with_reducible refine gate_dst (N:=61) rfl ?_);refine Kd.R_lit k32 _ 32 ?hg (N:=61) ?hd (xs:=([]:List (S32))) (inner:=[]) (ok:=fun _=>True) (okp:=fun _=>True) ?hr ?hp (fun _ hk=>hk) trivial (Below.refl _ _) (Nat.le_refl _) (by simp) ?_;(case hd=>rfl);(case hg=>rfl);(case hr=>first | (go_simp;done) | (go_simp;rfl));(case hp=>exact (Reps.none _ _));intro v998 w44 ho45 hb hg_ hnew_;clear hg_ hnew_;(first | rw [← Ny997.out] at ho45 | (simp only [Int.reduceToNat] at ho45;rw [← Ny997.out] at ho45));have n0_:=Aside0.mk (Kd.S_below (by (with_reducible repeat (first | apply Kd.S_alloc | apply Kd.S_drewN | apply Kd.S_drew));exact HO_3.out) hb);have n1_:=Aside0.mk (Kd.R_elder' (by (with_reducible repeat (first | apply Kd.R_alloc | apply Kd.R_drewN | apply Kd.R_drew));exact HO_4.out) (Kd.R_base ho45) hb);have n2_:=Aside0.mk (Kd.R_elder' (by (with_reducible repeat (first | apply Kd.R_alloc | apply Kd.R_drewN | apply Kd.R_drew));exact HO_7.out) (Kd.R_base ho45) hb);have n3_:=Aside0.mk (Kd.R_elder' (by (with_reducible repeat (first | apply Kd.R_alloc | apply Kd.R_drewN | apply Kd.R_drew));exact HO_11.out) (Kd.R_base ho45) hb);have n4_:=Aside0.mk (Kd.R_lower (Kd.R_new' (Kd.R_new' (Kd.R_new' ho45 (Kd.R_lt (by (with_reducible repeat (first | apply Kd.R_alloc | apply Kd.R_drewN | apply Kd.R_drew));exact HO_4.out))) (Kd.R_lt (by (with_reducible repeat (first | apply Kd.R_alloc | apply Kd.R_drewN | apply Kd.R_drew));exact HO_7.out))) (Kd.R_lt (by (with_reducible repeat (first | apply Kd.R_alloc | apply Kd.R_drewN | apply Kd.R_drew));exact HO_11.out))) (below_size (by repeat (first | (with_reducible first | exact HB.out | apply below_alloc | apply pw_below_drewN | apply below_drew1) | exact HB.out))));have n5_:=Aside0.mk (below_step (by repeat (first | (with_reducible first | exact HB.out | apply below_alloc | apply pw_below_drewN | apply below_drew1) | exact HB.out)) hb);clear HO_3;clear HO_4;clear HO_7;clear HO_11;clear HB;have HO_3:=n0_;have HO_4:=n1_;have HO_7:=n2_;have HO_11:=n3_;have HO999:=n4_;have HB:=n5_;clear n0_ n1_ n2_ n3_ n4_ n5_;clear hb ho45) | ((with_reducible refine gate_builtin (b:=.append) (xs:=#[.tmp 61,.tmp 62]) rfl ?_);at_builtin;refine Kd.R_append_rows k32 (w0:=w) w.heap.size rfl (.tmp 61) (.tmp 62) 24 32 (.agg #[(.int .i64 0),(.int .i64 0)]) 16 rfl Try.underlying24 info32 rfl (by decide) (by omega) v998 y997 x11_2 _ _ _ (fun k_=>some k_ ≠ (.slice Ao9 x4_2.length co9:Value).ownBlock∧some k_ ≠ (v984:Value).ownBlock∧some k_ ≠ (.slice Ao43 x11_2.length co43:Value).ownBlock) (fun _=>False) rfl rfl ?aO ?aR (fun _ _ h=>h) (fun _ h=>h.elim) ?aF ?aB ?aS ?aL ?_;(case aR=>repeat (first | exact (Kd.R_reads' HO_11.out).2.2 | (with_reducible refine Kd.C_alloc ?_ _) | (with_reducible refine Kd.C_drewN ?_ _) | (with_reducible refine Kd.C_drew ?_)));(case aB=>exact (by repeat (first | (with_reducible first | exact HB.out | apply below_alloc | apply pw_below_drewN | apply below_drew1) | exact HB.out)));(case aF=>exact (fun k_ hk=>⟨Kd.fresh' (Kd.R_lt (by (with_reducible repeat (first | apply Kd.R_alloc | apply Kd.R_drewN | apply Kd.R_drew));exact HO_4.out)) k_ hk,Kd.fresh' (Kd.R_lt (by (with_reducible repeat (first | apply Kd.R_alloc | apply Kd.R_drewN | apply Kd.R_drew));exact HO_7.out)) k_ hk,Kd.fresh' (Kd.R_lt (by (with_reducible repeat (first | apply Kd.R_alloc | apply Kd.R_drewN | apply Kd.R_drew));exact HO_11.out)) k_ hk⟩));(case aO=>exact (by (with_reducible repeat (first | apply Kd.R_alloc | apply Kd.R_drewN | apply Kd.R_drew));exact Kd.R_mono HO999.out (fun _ hk=>⟨hk.1.1.2,⟨hk.1.2,hk.2⟩⟩)));(case aS=>exact (below_size (by repeat (first | (with_reducible first | exact HB.out | apply below_alloc | apply pw_below_drewN | apply below_drew1) | exact HB.out))));(case aL=>have:=LMc24.out;omega);intro v1001 w46 ho hb hg hat;rw [← Ny1000.out] at ho;have n0_:=Aside0.mk (Kd.S_over' (by (with_reducible repeat (first | apply Kd.S_alloc | apply Kd.S_drewN | apply Kd.S_drew));exact HO_3.out) (Kd.R_typed (by (with_reducible repeat (first | apply Kd.R_alloc | apply Kd.R_drewN | apply Kd.R_drew));exact HO999.out)) (by decide) hg);have n1_:=Aside0.mk (Kd.R_after (ok:=(fun k_=>some k_ ≠ (v984:Value).ownBlock∧some k_ ≠ (.slice Ao43 x11_2.length co43:Value).ownBlock)) (by (with_reducible repeat (first | apply Kd.R_alloc | apply Kd.R_drewN | apply Kd.R_drew));exact HO_4.out) hg hat);have n2_:=Aside0.mk (Kd.R_after (ok:=(fun k_=>some k_ ≠ (.slice Ao9 x4_2.length co9:Value).ownBlock∧some k_ ≠ (.slice Ao43 x11_2.length co43:Value).ownBlock)) (by (with_reducible repeat (first | apply Kd.R_alloc | apply Kd.R_drewN | apply Kd.R_drew));exact HO_7.out) hg hat);have n3_:=Aside0.mk (Kd.R_after (ok:=(fun k_=>some k_ ≠ (.slice Ao9 x4_2.length co9:Value).ownBlock∧some k_ ≠ (v984:Value).ownBlock)) (by (with_reducible repeat (first | apply Kd.R_alloc | apply Kd.R_drewN | apply Kd.R_drew));exact HO_11.out) hg hat);have n4_:=Aside0.mk (hb);have n5_:=Aside0.mk (ho);clear HO_3;clear HO_4;clear HO_7;clear HO_11;clear HB;clear HO999;have HO_3:=n0_;have HO_4:=n1_;have HO_7:=n2_;have HO_11:=n3_;have HB:=n4_;have HO1002:=n5_;clear n0_ n1_ n2_ n3_ n4_ n5_;clear ho hb hg hat))
               have n0_:=Aside0.mk (Kd.S_drew HO_3.out)
               have n1_:=Aside0.mk (Kd.R_drew HO_4.out)
               have n2_:=Aside0.mk (Kd.R_drew HO_7.out)
               have n3_:=Aside0.mk (Kd.R_drew HO_11.out)
               have n4_:=Aside0.mk (Kd.R_drew HO1002.out)
               have n5_:=Aside0.mk (below_drew1 HB.out)
               clear HO_3
               clear HO_4
               clear HO_7
               clear HO_11
               clear HO1002
               clear HB
               have HO_3:=n0_
               have HO_4:=n1_
               have HO_7:=n2_
               have HO_11:=n3_
               have HO1002:=n4_
               have HB:=n5_
               clear n0_ n1_ n2_ n3_ n4_ n5_
               obtain ⟨Ao48,co48,eo48⟩:=Kd.R_slice HO1002.out
               (first | subst eo48 | (injection eo48 with f1_ f2_ f3_;have f4_:=f1_.symm;have f5_:=f3_.symm;clear f1_ f2_ f3_;subst f4_;subst f5_))
               have p1003:0 ≤ ((ji25):Int):=of_decide_eq_true (by first | (with_reducible assumption) | assumption)
               have q1003:(ji25) < (y1000.length:Int):=of_decide_eq_true (by first | (with_reducible assumption) | assumption)
               obtain ⟨ad1003,e1003,hx1003_0,hx1003_1⟩:=at_T32 (Kd.R_reads' HO1002.out).2.2 (ji25) p1003 q1003
               cases e1003
               replace p1003:=eq_true p1003
               replace q1003:=eq_true q1003
               have p1004:0 ≤ (x12_2:Int):=of_decide_eq_true (by first | (with_reducible assumption) | assumption)
               have q1004:x12_2 < (y1000.length:Int):=of_decide_eq_true (by first | (with_reducible assumption) | assumption)
               obtain ⟨ad1004,e1004,hx1004_0,hx1004_1⟩:=at_T32 (Kd.R_reads' HO1002.out).2.2 x12_2 p1004 q1004
               obtain rfl:ad1003 = ad1004:=(by injection e1004)
               replace p1004:=eq_true p1004
               replace q1004:=eq_true q1004
               have p30:0 ≤ (x12_2:Int):=of_decide_eq_true (by first | (with_reducible assumption) | assumption)
               have q30:(x12_2:Int) < ((y1000.length:Int):Int):=of_decide_eq_true (by first | (with_reducible assumption) | assumption)
               obtain ⟨go30,co30,eo30,gb30,gl30,cl30,HG30⟩:=Kd.R_form HO1002.out (by omega)
               (first | cases eo30 | (injection eo30 with ea_ en_ ec_;(first | subst ea_ | (injection ea_ with ea_;subst ea_));subst ec_;clear en_))
               have GB30:=Aside0.mk gb30
               have GG30:=Aside0.mk HG30
               clear gb30 gl30 HG30
               (first | simp only [add_plain] at hx1003_0 | skip)
               (first | simp only [add_plain] at hx1003_1 | skip)
               (first | simp only [add_plain] at hx1004_0 | skip)
               (first | simp only [add_plain] at hx1004_1 | skip)
               obtain ⟨ce30,hcl30,hM30,hcc30,hfr30⟩:=Kd.R_elem HO1002.out z32 (x12_2:Int) p30 q30
               obtain rfl:=k32_openM hM30
               have hx30_0:World.cell? _ ⟨go30,(x12_2:Int).toNat * 2,none⟩ = some (.int .i64 ((rd_T32 y1000 x12_2).f0)):=hcc30 0 _ rfl
               have hx30_1:World.cell? _ ⟨go30,(x12_2:Int).toNat * 2 + 1,none⟩ = some (.int .i64 ((rd_T32 y1000 x12_2).f1)):=hcc30 1 _ rfl
               have hf30_0:World.frozen? _ ⟨go30,(x12_2:Int).toNat * 2,none⟩ = false:=hfr30 0
               have hf30_1:World.frozen? _ ⟨go30,(x12_2:Int).toNat * 2 + 1,none⟩ = false:=hfr30 1
               clear hcl30 hcc30 hfr30;(try clear hM30)
               replace p30:=eq_true p30
               replace q30:=eq_true q30
               obtain ⟨ce49,hcl49,hM49,hcc49,hfr49⟩:=Kd.R_elem HO1002.out z32 (x12_2:Int) (of_decide_eq_true (by first | (with_reducible assumption) | assumption)) (by have h_:(x12_2:Int) < ((y1000.length:Int):Int):=of_decide_eq_true (by first | (with_reducible assumption) | assumption);first | exact h_ | (have e_:=(Kd.R_reads' HO1002.out).1;omega) | simpa using h_)
               obtain rfl:=k32_openM hM49
               have HP49:=(Kd.R_seg HO1002.out (x12_2:Int) (of_decide_eq_true (by first | (with_reducible assumption) | assumption)) (by have h_:(x12_2:Int) < ((y1000.length:Int):Int):=of_decide_eq_true (by first | (with_reducible assumption) | assumption);first | exact h_ | (have e_:=(Kd.R_reads' HO1002.out).1;omega) | simpa using h_) (seg:=[.int .i64 ((rd_T32 y1000 (ji25)).f0),.int .i64 ((rd_T32 y1000 (ji25)).f1)]) (j:=0) hcl49 hcc49 (show 2 ≤ 2 from by decide) (x':=(⟨(rd_T32 y1000 (ji25)).f0,(rd_T32 y1000 (ji25)).f1⟩:S32)) (k32_mkM _ _ _ (⟨(rd_T32 y1000 (ji25)).f0,(rd_T32 y1000 (ji25)).f1⟩:S32) ) (fun _ hk=>hk)).1
               rw [← Ny1005.out] at HP49
               have HQ49:=Aside0.mk HP49
               clear hcl49 hcc49 hfr49;(try clear hM49);clear HP49
               have p31:0 ≤ ((ji25):Int):=of_decide_eq_true (by first | (with_reducible assumption) | assumption)
               have q31:((ji25):Int) < ((y1000.length:Int):Int):=of_decide_eq_true (by first | (with_reducible assumption) | assumption)
               obtain ⟨ce31,hcl31,hM31,hcc31,hfr31⟩:=Kd.R_elem HQ49.out z32 ((ji25):Int) p31 q31
               obtain rfl:=k32_openM hM31
               have hx31_0:World.cell? _ ⟨go30,((ji25):Int).toNat * 2,none⟩ = some (.int .i64 ((rd_T32 y1005 (ji25)).f0)):=hcc31 0 _ rfl
               have hx31_1:World.cell? _ ⟨go30,((ji25):Int).toNat * 2 + 1,none⟩ = some (.int .i64 ((rd_T32 y1005 (ji25)).f1)):=hcc31 1 _ rfl
               have hf31_0:World.frozen? _ ⟨go30,((ji25):Int).toNat * 2,none⟩ = false:=hfr31 0
               have hf31_1:World.frozen? _ ⟨go30,((ji25):Int).toNat * 2 + 1,none⟩ = false:=hfr31 1
               clear hcl31 hcc31 hfr31;(try clear hM31)
               replace p31:=eq_true p31
               replace q31:=eq_true q31
               obtain ⟨ce50,hcl50,hM50,hcc50,hfr50⟩:=Kd.R_elem HQ49.out z32 ((ji25):Int) (of_decide_eq_true (by first | (with_reducible assumption) | assumption)) (by have h_:((ji25):Int) < ((y1000.length:Int):Int):=of_decide_eq_true (by first | (with_reducible assumption) | assumption);first | exact h_ | (have e_:=(Kd.R_reads' HO1002.out).1;omega) | simpa using h_)
               obtain rfl:=k32_openM hM50
               have HP50:=(Kd.R_seg HQ49.out ((ji25):Int) (of_decide_eq_true (by first | (with_reducible assumption) | assumption)) (by have h_:((ji25):Int) < ((y1000.length:Int):Int):=of_decide_eq_true (by first | (with_reducible assumption) | assumption);first | exact h_ | (have e_:=(Kd.R_reads' HO1002.out).1;omega) | simpa using h_) (seg:=[.int .i64 ((rd_T32 y1000 x12_2).f0),.int .i64 ((rd_T32 y1000 x12_2).f1)]) (j:=0) hcl50 hcc50 (show 2 ≤ 2 from by decide) (x':=(⟨(rd_T32 y1000 x12_2).f0,(rd_T32 y1000 x12_2).f1⟩:S32)) (k32_mkM _ _ _ (⟨(rd_T32 y1000 x12_2).f0,(rd_T32 y1000 x12_2).f1⟩:S32) ) (fun _ hk=>hk)).1
               rw [← Ny1006.out] at HP50
               have HQ50:=Aside0.mk HP50
               clear hcl50 hcc50 hfr50;(try clear hM50);clear HP50
               refine start_ (n:=18) (S:=fun w'=>w'.cell? (⟨go30,(((ji25)).toNat * 2),none⟩:Addr) = some (.int .i64 ((rd_T32 y1000 (ji25)).f0))∧w'.cell? ⟨go30,(((ji25)).toNat * 2) + 1,none⟩ = some (.int .i64 ((rd_T32 y1000 (ji25)).f1))∧w'.cell? ⟨go30,((x12_2).toNat * 2),none⟩ = some (.int .i64 ((rd_T32 y1000 x12_2).f0))∧w'.cell? ⟨go30,((x12_2).toNat * 2) + 1,none⟩ = some (.int .i64 ((rd_T32 y1000 x12_2).f1))) (ds:=[15,17]) #[false,false,false,false,false,false,false,false,false,false,false,false,false,false,false,false,false,false] (by kernel_rfl) rfl rfl ⟨hx1003_0,hx1003_1,hx1004_0,hx1004_1⟩ (fun hHeld=>?_);refine with_tabW laws_FnBackSame.tab13 laws_FnBackSame.bits13 (fun HT_ HW_=>?_)
               generalize w46.drew = w47 at HO_3 HO_4 HO_7 HO_11 HO1002 HB GG30 HQ49 HQ50 hf30_0 hf30_1 hf31_0 hf31_1 hx1003_0 hx1003_1 hx1004_0 hx1004_1 hx30_0 hx30_1 hx31_0 hx31_1 hHeld ⊢
               refine pure_ (i:=0) (N:=some 64) (v:=?_) (a':=?_) #[true,false,false,false,false,false,false,false,false,false,false,false,false,false,false,false,false,false] rfl rfl (any_of HT_.out (by kernel_rfl)) (fun _ _ _ h=>h) (Or.inl ⟨by rfl,?_⟩) ?_ ?_
               rotate_left;·intro w';go_simp;with_reducible rfl
               rotate_left;·simp only [Act.put,List.setIfInBounds_toArray,List.set_cons_zero,List.set_cons_succ,i64_w,i32_w];rfl
               refine pure_ (i:=1) (N:=some 65) (v:=?_) (a':=?_) #[true,true,false,false,false,false,false,false,false,false,false,false,false,false,false,false,false,false] rfl rfl (any_of HT_.out (by kernel_rfl)) (fun _ _ _ h=>h) (Or.inl ⟨by rfl,?_⟩) ?_ ?_
               rotate_left;·intro w';go_simp;with_reducible rfl
               rotate_left;·simp only [Act.put,List.setIfInBounds_toArray,List.set_cons_zero,List.set_cons_succ,i64_w,i32_w];rfl
               refine pure_ (i:=2) (N:=some 66) (v:=?_) (a':=?_) #[true,true,true,false,false,false,false,false,false,false,false,false,false,false,false,false,false,false] rfl rfl (any_of HT_.out (by kernel_rfl)) (fun _ _ _ h=>h) (Or.inl ⟨by rfl,?_⟩) ?_ ?_
               rotate_left;·intro w';go_simp;with_reducible rfl
               rotate_left;·simp only [Act.put,List.setIfInBounds_toArray,List.set_cons_zero,List.set_cons_succ,i64_w,i32_w];rfl
               refine pure_ (i:=3) (N:=some 67) (v:=?_) (a':=?_) #[true,true,true,true,false,false,false,false,false,false,false,false,false,false,false,false,false,false] rfl rfl (any_of HT_.out (by kernel_rfl)) (fun _ _ _ h=>h) (Or.inl ⟨by rfl,?_⟩) ?_ ?_
               rotate_left;·intro w';go_simp;with_reducible rfl
               rotate_left;·simp only [Act.put,List.setIfInBounds_toArray,List.set_cons_zero,List.set_cons_succ,i64_w,i32_w];rfl
               refine pure_ (i:=4) (N:=some 68) (v:=?_) (a':=?_) #[true,true,true,true,true,false,false,false,false,false,false,false,false,false,false,false,false,false] rfl rfl (any_of HT_.out (by kernel_rfl)) (fun _ _ _ h=>h) (Or.inl ⟨by rfl,?_⟩) ?_ ?_
               rotate_left;·intro w';go_simp;with_reducible rfl
               rotate_left;·simp only [Act.put,List.setIfInBounds_toArray,List.set_cons_zero,List.set_cons_succ,i64_w,i32_w];rfl
               refine pure_ (i:=5) (N:=some 69) (v:=?_) (a':=?_) #[true,true,true,true,true,true,false,false,false,false,false,false,false,false,false,false,false,false] rfl rfl (any_of HT_.out (by kernel_rfl)) (fun _ _ _ h=>h) (Or.inl ⟨by rfl,?_⟩) ?_ ?_
               rotate_left;·intro w';go_simp;with_reducible rfl
               rotate_left;·simp only [Act.put,List.setIfInBounds_toArray,List.set_cons_zero,List.set_cons_succ,i64_w,i32_w];rfl
               refine pure_ (i:=6) (N:=some 70) (v:=?_) (a':=?_) #[true,true,true,true,true,true,true,false,false,false,false,false,false,false,false,false,false,false] rfl rfl (any_of HT_.out (by kernel_rfl)) (fun _ _ _ h=>h) (Or.inl ⟨by rfl,?_⟩) ?_ ?_
               rotate_left;·intro w';go_simp;with_reducible rfl
               rotate_left;·simp only [Act.put,List.setIfInBounds_toArray,List.set_cons_zero,List.set_cons_succ,i64_w,i32_w];rfl
               refine pure_ (i:=7) (N:=some 71) (v:=?_) (a':=?_) #[true,true,true,true,true,true,true,true,false,false,false,false,false,false,false,false,false,false] rfl rfl (any_of HT_.out (by kernel_rfl)) (fun _ _ _ h=>h) (Or.inl ⟨by rfl,?_⟩) ?_ ?_
               rotate_left;·intro w';go_simp;with_reducible rfl
               rotate_left;·simp only [Act.put,List.setIfInBounds_toArray,List.set_cons_zero,List.set_cons_succ,i64_w,i32_w];rfl
               refine pure_ (i:=8) (N:=some 72) (v:=?_) (a':=?_) #[true,true,true,true,true,true,true,true,true,false,false,false,false,false,false,false,false,false] rfl rfl (any_of HT_.out (by kernel_rfl)) (fun _ _ _ h=>h) (Or.inl ⟨by rfl,?_⟩) ?_ ?_
               rotate_left;·intro w';go_simp;with_reducible rfl
               rotate_left;·simp only [Act.put,List.setIfInBounds_toArray,List.set_cons_zero,List.set_cons_succ,i64_w,i32_w];rfl
               refine pure_ (i:=10) (N:=some 74) (v:=?_) (a':=?_) #[true,true,true,true,true,true,true,true,true,false,true,false,false,false,false,false,false,false] rfl rfl (any_of HT_.out (by kernel_rfl)) (fun _ _ _ h=>h) (Or.inl ⟨by rfl,?_⟩) ?_ ?_
               rotate_left;·intro w';go_simp;with_reducible rfl
               rotate_left;·simp only [Act.put,List.setIfInBounds_toArray,List.set_cons_zero,List.set_cons_succ,i64_w,i32_w];rfl
               refine pure_ (i:=11) (N:=some 75) (v:=?_) (a':=?_) #[true,true,true,true,true,true,true,true,true,false,true,true,false,false,false,false,false,false] rfl rfl (any_of HT_.out (by kernel_rfl)) (fun _ _ _ h=>h) (Or.inl ⟨by rfl,?_⟩) ?_ ?_
               rotate_left;·intro w';go_simp;with_reducible rfl
               rotate_left;·simp only [Act.put,List.setIfInBounds_toArray,List.set_cons_zero,List.set_cons_succ,i64_w,i32_w];rfl
               refine pure_ (i:=12) (N:=some 76) (v:=?_) (a':=?_) #[true,true,true,true,true,true,true,true,true,false,true,true,true,false,false,false,false,false] rfl rfl (any_of HT_.out (by kernel_rfl)) (fun _ _ _ h=>h) (Or.inl ⟨by rfl,?_⟩) ?_ ?_
               rotate_left;·intro w';go_simp;with_reducible rfl
               rotate_left;·simp only [Act.put,List.setIfInBounds_toArray,List.set_cons_zero,List.set_cons_succ,i64_w,i32_w];rfl
               refine take_ (i:=9) (N:=some 73) (v:=?_) (a':=?_) #[true,true,true,true,true,true,true,true,true,true,true,true,true,false,false,false,false,false] rfl rfl (take_ofW HT_.out HW_.out (by kernel_rfl)) (fun _ _ _ h=>h) (Or.inl ⟨by rfl,?_⟩) hHeld ?_ ?_
               rotate_left;·rintro w' ⟨s0,s1,s2,s3⟩;go_simp;with_reducible rfl
               rotate_left;·simp only [Act.put,List.setIfInBounds_toArray,List.set_cons_zero,List.set_cons_succ,i64_w,i32_w];rfl
               refine take_ (i:=13) (N:=some 77) (v:=?_) (a':=?_) #[true,true,true,true,true,true,true,true,true,true,true,true,true,true,false,false,false,false] rfl rfl (take_ofW HT_.out HW_.out (by kernel_rfl)) (fun _ _ _ h=>h) (Or.inl ⟨by rfl,?_⟩) hHeld ?_ ?_
               rotate_left;·rintro w' ⟨s0,s1,s2,s3⟩;go_simp;with_reducible rfl
               rotate_left;·simp only [Act.put,List.setIfInBounds_toArray,List.set_cons_zero,List.set_cons_succ,i64_w,i32_w];rfl
               refine pure_ (i:=14) (N:=some 78) (v:=?_) (a':=?_) #[true,true,true,true,true,true,true,true,true,true,true,true,true,true,true,false,false,false] rfl rfl (any_of HT_.out (by kernel_rfl)) (fun _ _ _ h=>h) (Or.inl ⟨by rfl,?_⟩) ?_ ?_
               rotate_left;·intro w';go_simp;with_reducible rfl
               rotate_left;·simp only [Act.put,List.setIfInBounds_toArray,List.set_cons_zero,List.set_cons_succ,i64_w,i32_w];rfl
               refine last_ (i:=15) (N:=none) #[true,true,true,true,true,true,true,true,true,true,true,true,true,true,true,true,false,false] rfl rfl (one_of HT_.out (by kernel_rfl)) (by decide) (fun K hK=>?_)
               refine skip_ (w1:=?_) (by rfl) rfl ?_ ?_
               rotate_left
               ·go_simp
                rfl
               refine hK.out _ _ ?_
               clear hK K
               refine pure_ (i:=16) (N:=some 79) (v:=?_) (a':=?_) #[true,true,true,true,true,true,true,true,true,true,true,true,true,true,true,true,true,false] rfl rfl (any_of HT_.out (by kernel_rfl)) (fun _ _ _ h=>h) (Or.inl ⟨by rfl,?_⟩) ?_ ?_
               rotate_left;·intro w';go_simp;with_reducible rfl
               rotate_left;·simp only [Act.put,List.setIfInBounds_toArray,List.set_cons_zero,List.set_cons_succ,i64_w,i32_w];rfl
               refine last_ (i:=17) (N:=none) #[true,true,true,true,true,true,true,true,true,true,true,true,true,true,true,true,true,true] rfl rfl (one_of HT_.out (by kernel_rfl)) (by decide) (fun K hK=>?_)
               refine skip_ (w1:=?_) (by rfl) rfl ?_ ?_
               rotate_left
               ·have fr0_:World.frozen? w47 ⟨go30,ji25.toNat * 2,none⟩ = false:=(World.frozen?_setCell _ _ _ _).symm.trans ((World.frozen?_setCell _ _ _ _).symm.trans hf31_0)
                have fr1_:World.frozen? w47 ⟨go30,ji25.toNat * 2 + 1,none⟩ = false:=(World.frozen?_setCell _ _ _ _).symm.trans ((World.frozen?_setCell _ _ _ _).symm.trans hf31_1)
                have ce0_:(World.setCell w47 ⟨go30,x12_2.toNat * 2,none⟩ (.int .i64 (rd_T32 y1000 ji25).f0)).cell? ⟨go30,ji25.toNat * 2,none⟩ = some (.int .i64 (rd_T32 y1000 ji25).f0):=by
                 by_cases e_:(⟨go30,x12_2.toNat * 2,none⟩:Addr) = ⟨go30,ji25.toNat * 2,none⟩
                 ·rw [← e_];exact World.cell?_setCell_same _ _ _ hx30_0
                 ·rw [World.cell?_setCell_other _ _ _ _ e_];exact hHeld.1
                have ce1_:((World.setCell w47 ⟨go30,x12_2.toNat * 2,none⟩ (.int .i64 (rd_T32 y1000 ji25).f0)).setCell ⟨go30,x12_2.toNat * 2 + 1,none⟩ (.int .i64 (rd_T32 y1000 ji25).f1)).cell? ⟨go30,ji25.toNat * 2 + 1,none⟩ = some (.int .i64 (rd_T32 y1000 ji25).f1):=by
                 by_cases e_:(⟨go30,x12_2.toNat * 2 + 1,none⟩:Addr) = ⟨go30,ji25.toNat * 2 + 1,none⟩
                 ·rw [← e_];exact World.cell?_setCell_same _ _ _ (by rw [World.cell?_setCell_other _ _ _ _ (by simp)];exact hx30_1)
                 ·rw [World.cell?_setCell_other _ _ _ _ e_,World.cell?_setCell_other _ _ _ _ (by intro h_;simp only [Addr.mk.injEq] at h_;omega)];exact hHeld.2.1
                go_simp
                rfl
               refine hK.out _ _ ?_
               clear hK K
               refine done_ (done_of HT_.out (by kernel_rfl)) ?_
               try go_wp2_with (first | ((with_reducible refine gate_callee (f:=45) rfl ?_);refine goesL_ (some 83) rfl rfl Try.func45 (by kernel_rfl) rfl #[.slice Ao8 t974.length co8,.slice Ao9 x4_2.length co9,.slice (some ⟨go30,0,none⟩) y1006.length co48] rfl (by (try simp only [List.map_toArray,List.map_cons,List.map_nil]);first | done | (rw [show y1006.length = y1000.length from (Kd.R_reads' HQ50.out).1.symm] <;> rfl) | rfl | (simp only [List.length_drop,List.length_take];rfl)) ?_;(with_reducible refine (impl_HistorySame.calls k2 _ _ t974 _ _ x4_2 _ _ y1006 false _ ?side1 ?side2 ?side3 ?side4 ?side5 ?side6 A32.out).mono ?_);(case side1=>refine (Kd.S_reads' (e:=27) (base:=w.heap.size) (ok:=fun k_=>True) (n:=t974.length) (c:=co8) ?_).2.2;exact (by (with_reducible repeat (first | apply Kd.S_alloc | apply Kd.S_drewN | apply Kd.S_drew));exact (Kd.S_mono (Kd.S_far (p:=⟨go30,((ji25):Int).toNat * 2 + 1,none⟩) (Kd.S_far (p:=⟨go30,((ji25):Int).toNat * 2,none⟩) (Kd.S_far (p:=⟨go30,(x12_2:Int).toNat * 2 + 1,none⟩) (Kd.S_far (p:=⟨go30,(x12_2:Int).toNat * 2,none⟩) (Kd.S_types HO_3.out GG30.out (by decide)) (fun _ hk=>hk.2) (.int .i64 ((rd_T32 y1000 (ji25)).f0))) (fun _ hk=>hk.2) (.int .i64 ((rd_T32 y1000 (ji25)).f1))) (fun _ hk=>hk.2) (.int .i64 ((rd_T32 y1000 x12_2).f0))) (fun _ hk=>hk.2) (.int .i64 ((rd_T32 y1000 x12_2).f1))) (fun _ h_=>h_.1))));(case side2=>exact (Kd.S_reads' HO_3.out).2.1);(case side3=>refine (Kd.R_reads' (e:=32) (base:=w.heap.size) (ok:=fun k_=>((some k_ ≠ (v984:Value).ownBlock∧some k_ ≠ (.slice Ao43 x11_2.length co43:Value).ownBlock)∧some k_ ≠ (.slice (some ⟨go30,0,none⟩) y1000.length co48:Value).ownBlock)) (n:=x4_2.length) (c:=co9) ?_).2.2;exact (by (with_reducible repeat (first | apply Kd.R_alloc | apply Kd.R_drewN | apply Kd.R_drew));exact (Kd.R_mono (Kd.R_far (p:=⟨go30,((ji25):Int).toNat * 2 + 1,none⟩) (Kd.R_far (p:=⟨go30,((ji25):Int).toNat * 2,none⟩) (Kd.R_far (p:=⟨go30,(x12_2:Int).toNat * 2 + 1,none⟩) (Kd.R_far (p:=⟨go30,(x12_2:Int).toNat * 2,none⟩) (Kd.R_mono HO_4.out (fun k_ hk=>(⟨hk,fun e_=>hk.2 (by rw [e_];rfl)⟩:_∧k_ ≠ go30))) (fun _ hk=>hk.2) (.int .i64 ((rd_T32 y1000 (ji25)).f0))) (fun _ hk=>hk.2) (.int .i64 ((rd_T32 y1000 (ji25)).f1))) (fun _ hk=>hk.2) (.int .i64 ((rd_T32 y1000 x12_2).f0))) (fun _ hk=>hk.2) (.int .i64 ((rd_T32 y1000 x12_2).f1))) (fun _ h_=>h_.1))));(case side4=>exact (Kd.R_reads' HO_4.out).2.1);(case side5=>refine (Kd.R_reads' (e:=32) (base:=w.heap.size) (ok:=fun k_=>(some k_ ≠ (.slice Ao9 x4_2.length co9:Value).ownBlock∧(some k_ ≠ (v984:Value).ownBlock∧some k_ ≠ (.slice Ao43 x11_2.length co43:Value).ownBlock))) (n:=y1000.length) (c:=co48) ?_).2.2;exact (by (with_reducible repeat (first | apply Kd.R_alloc | apply Kd.R_drewN | apply Kd.R_drew));exact HQ50.out));(case side6=>rw [show y1006.length = y1000.length from (Kd.R_reads' HQ50.out).1.symm];exact (Kd.R_reads' HO1002.out).2.1);rintro e w51 ⟨rfl,hb⟩;refine ⟨_,rfl,?_⟩;have n0_:=Aside0.mk (Kd.S_below (by (with_reducible repeat (first | apply Kd.S_alloc | apply Kd.S_drewN | apply Kd.S_drew));exact (Kd.S_mono (Kd.S_far (p:=⟨go30,((ji25):Int).toNat * 2 + 1,none⟩) (Kd.S_far (p:=⟨go30,((ji25):Int).toNat * 2,none⟩) (Kd.S_far (p:=⟨go30,(x12_2:Int).toNat * 2 + 1,none⟩) (Kd.S_far (p:=⟨go30,(x12_2:Int).toNat * 2,none⟩) (Kd.S_types HO_3.out GG30.out (by decide)) (fun _ hk=>hk.2) (.int .i64 ((rd_T32 y1000 (ji25)).f0))) (fun _ hk=>hk.2) (.int .i64 ((rd_T32 y1000 (ji25)).f1))) (fun _ hk=>hk.2) (.int .i64 ((rd_T32 y1000 x12_2).f0))) (fun _ hk=>hk.2) (.int .i64 ((rd_T32 y1000 x12_2).f1))) (fun _ h_=>h_.1))) hb);have n1_:=Aside0.mk (Kd.R_below (by (with_reducible repeat (first | apply Kd.R_alloc | apply Kd.R_drewN | apply Kd.R_drew));exact (Kd.R_mono (Kd.R_far (p:=⟨go30,((ji25):Int).toNat * 2 + 1,none⟩) (Kd.R_far (p:=⟨go30,((ji25):Int).toNat * 2,none⟩) (Kd.R_far (p:=⟨go30,(x12_2:Int).toNat * 2 + 1,none⟩) (Kd.R_far (p:=⟨go30,(x12_2:Int).toNat * 2,none⟩) (Kd.R_mono HO_4.out (fun k_ hk=>(⟨hk,fun e_=>hk.2 (by rw [e_];rfl)⟩:_∧k_ ≠ go30))) (fun _ hk=>hk.2) (.int .i64 ((rd_T32 y1000 (ji25)).f0))) (fun _ hk=>hk.2) (.int .i64 ((rd_T32 y1000 (ji25)).f1))) (fun _ hk=>hk.2) (.int .i64 ((rd_T32 y1000 x12_2).f0))) (fun _ hk=>hk.2) (.int .i64 ((rd_T32 y1000 x12_2).f1))) (fun _ h_=>h_.1))) hb);have n2_:=Aside0.mk (Kd.R_below (by (with_reducible repeat (first | apply Kd.R_alloc | apply Kd.R_drewN | apply Kd.R_drew));exact (Kd.R_mono (Kd.R_far (p:=⟨go30,((ji25):Int).toNat * 2 + 1,none⟩) (Kd.R_far (p:=⟨go30,((ji25):Int).toNat * 2,none⟩) (Kd.R_far (p:=⟨go30,(x12_2:Int).toNat * 2 + 1,none⟩) (Kd.R_far (p:=⟨go30,(x12_2:Int).toNat * 2,none⟩) (Kd.R_mono HO_7.out (fun k_ hk=>(⟨hk,fun e_=>hk.2 (by rw [e_];rfl)⟩:_∧k_ ≠ go30))) (fun _ hk=>hk.2) (.int .i64 ((rd_T32 y1000 (ji25)).f0))) (fun _ hk=>hk.2) (.int .i64 ((rd_T32 y1000 (ji25)).f1))) (fun _ hk=>hk.2) (.int .i64 ((rd_T32 y1000 x12_2).f0))) (fun _ hk=>hk.2) (.int .i64 ((rd_T32 y1000 x12_2).f1))) (fun _ h_=>h_.1))) hb);have n3_:=Aside0.mk (Kd.R_below (by (with_reducible repeat (first | apply Kd.R_alloc | apply Kd.R_drewN | apply Kd.R_drew));exact (Kd.R_mono (Kd.R_far (p:=⟨go30,((ji25):Int).toNat * 2 + 1,none⟩) (Kd.R_far (p:=⟨go30,((ji25):Int).toNat * 2,none⟩) (Kd.R_far (p:=⟨go30,(x12_2:Int).toNat * 2 + 1,none⟩) (Kd.R_far (p:=⟨go30,(x12_2:Int).toNat * 2,none⟩) (Kd.R_mono HO_11.out (fun k_ hk=>(⟨hk,fun e_=>hk.2 (by rw [e_];rfl)⟩:_∧k_ ≠ go30))) (fun _ hk=>hk.2) (.int .i64 ((rd_T32 y1000 (ji25)).f0))) (fun _ hk=>hk.2) (.int .i64 ((rd_T32 y1000 (ji25)).f1))) (fun _ hk=>hk.2) (.int .i64 ((rd_T32 y1000 x12_2).f0))) (fun _ hk=>hk.2) (.int .i64 ((rd_T32 y1000 x12_2).f1))) (fun _ h_=>h_.1))) hb);have n4_:=Aside0.mk (Kd.R_below (by (with_reducible repeat (first | apply Kd.R_alloc | apply Kd.R_drewN | apply Kd.R_drew));exact HQ50.out) hb);have n5_:=Aside0.mk (below_step (by repeat (first | (with_reducible first | exact HB.out | apply below_alloc | apply pw_below_drewN | apply below_drew1 | refine below_set ?_ GB30.out | refine below_set ?_ GB30.out | refine below_set ?_ GB30.out | refine below_set ?_ GB30.out) | exact HB.out)) hb);clear HO_3;clear HO_4;clear HO_7;clear HO_11;clear HO1002;clear HB;have HO_3:=n0_;have HO_4:=n1_;have HO_7:=n2_;have HO_11:=n3_;have HO1002:=n4_;have HB:=n5_;clear n0_ n1_ n2_ n3_ n4_ n5_;(try clear hb);(try clear hb2);(try clear hk);(try clear hi)))
               (try simp only [← hl4_2])
               go_roundg k2
               case measure=>have:=HJ5.out;have:=HK2.out;omega
               case rel=>exact ⟨(x4_2),(x7_2),(x11_2),(ji25),(by first | rfl | (simp;done) | (simp only [← hji25] <;> (first | rfl | simp)) | (simp [*];done)),H',⟨by have:=HJ5.out;have:=HK2.out;omega⟩,⟨by (try simp only [hl4_2]);(with_reducible repeat (first | apply Kd.S_alloc | apply Kd.S_drewN | apply Kd.S_drew));exact HO_3.out⟩,⟨by (try simp only [hl4_2]);(with_reducible repeat (first | apply Kd.R_alloc | apply Kd.R_drewN | apply Kd.R_drew));exact Kd.R_mono HO_4.out (fun _ hk=>⟨hk.1.1,hk.1.2⟩)⟩,⟨by (try simp only [hl4_2]);(with_reducible repeat (first | apply Kd.R_alloc | apply Kd.R_drewN | apply Kd.R_drew));exact Kd.R_mono HO_7.out (fun _ hk=>⟨hk.1.1,hk.1.2⟩)⟩,⟨by (try simp only [hl4_2]);(with_reducible repeat (first | apply Kd.R_alloc | apply Kd.R_drewN | apply Kd.R_drew));exact Kd.R_mono HO_11.out (fun _ hk=>⟨hk.1.1,hk.1.2⟩)⟩,⟨by repeat (first | (with_reducible first | exact HB.out | apply below_alloc | apply pw_below_drewN | apply below_drew1) | exact HB.out)⟩⟩
             ·rw [if_neg c29] at H
              exact absurd H (by simp)
            ·rw [if_neg c28] at H
             exact absurd H (by simp)
           ·rw [if_neg c27] at H
            exact absurd H (by simp)
          ·rw [if_neg c26] at H
           exact absurd H (by simp)
         ·rw [if_neg c24] at H
          exact absurd H (by simp)
        ·rw [if_neg c23] at H
         have c23b0:decide ((wrap64 (x12_2 + 1)) < (x11_2.length:Int)) = false:=decide_eq_false c23
         clear c23
         replace H:=Option.bind_eq_some_iff.mp H
         obtain ⟨⟨t1008,t1009⟩,A520,H⟩:=H
         replace H:(if t983 = true then (if t1009 = true then ((impl_HistorySame.f k2 t974 x7_2 t1008).bind fun t1012=>(some t1012)) else (some false)) else (some true)) = some r:=H
         have A52:=Aside0.mk A520
         clear A520
         by_cases c53:t983 = true
         ·subst c53
          have H1:(if t1009 = true then ((impl_HistorySame.f k2 t974 x7_2 t1008).bind fun t1012=>(some t1012)) else (some false)) = some r:=by rw [if_pos rfl] at H;exact H
          clear H
          have H:=H1
          clear H1
          by_cases c54:t1009 = true
          ·subst c54
           have H1:((impl_HistorySame.f k2 t974 x7_2 t1008).bind fun t1012=>(some t1012)) = some r:=by rw [if_pos rfl] at H;exact H
           clear H
           have H:=H1
           clear H1
           replace H:=Option.bind_eq_some_iff.mp H
           obtain ⟨t1012,A550,H⟩:=H
           replace H:(some t1012) = some r:=H
           have A55:=Aside0.mk A550
           clear A550
           obtain rfl:=Option.some.inj H
           obtain ⟨Ao56,co56,eo56⟩:=Kd.R_slice HO_11.out
           subst eo56
           go_wp2_with (first | ((with_reducible refine gate_callee (f:=47) rfl ?_);refine goesL_ (some 90) rfl rfl Try.func47 (by kernel_rfl) rfl #[.slice Ao8 t974.length co8,.slice Ao56 x11_2.length co56,.int .i64 t976,.int .i64 t977] rfl (by (try simp only [List.map_toArray,List.map_cons,List.map_nil]);first | done | rfl | (simp only [List.length_drop,List.length_take];rfl)) ?_;(with_reducible refine (impl_HistoryBack.calls k2 _ _ t974 _ _ x11_2 t976 t977 t1008 true _ ?side1 ?side2 ?side3 ?side4 A52.out).mono ?_);(case side1=>repeat (first | exact (Kd.S_reads' HO_3.out).2.2 | (with_reducible refine Kd.C_alloc ?_ _) | (with_reducible refine Kd.C_drewN ?_ _) | (with_reducible refine Kd.C_drew ?_)));(case side2=>exact (Kd.S_reads' HO_3.out).2.1);(case side3=>repeat (first | exact (Kd.R_reads' HO_11.out).2.2 | (with_reducible refine Kd.C_alloc ?_ _) | (with_reducible refine Kd.C_drewN ?_ _) | (with_reducible refine Kd.C_drew ?_)));(case side4=>exact (Kd.R_reads' HO_11.out).2.1);rintro e w57 ⟨v1010,rfl,ho0,hb⟩;refine ⟨_,rfl,?_⟩;have n0_:=Aside0.mk (Kd.S_below (by (with_reducible repeat (first | apply Kd.S_alloc | apply Kd.S_drewN | apply Kd.S_drew));exact HO_3.out) hb);have n1_:=Aside0.mk (Kd.R_elder' (by (with_reducible repeat (first | apply Kd.R_alloc | apply Kd.R_drewN | apply Kd.R_drew));exact HO_4.out) (Kd.R_base ho0) hb);have n2_:=Aside0.mk (Kd.R_elder' (by (with_reducible repeat (first | apply Kd.R_alloc | apply Kd.R_drewN | apply Kd.R_drew));exact HO_7.out) (Kd.R_base ho0) hb);have n3_:=Aside0.mk (Kd.R_elder' (by (with_reducible repeat (first | apply Kd.R_alloc | apply Kd.R_drewN | apply Kd.R_drew));exact HO_11.out) (Kd.R_base ho0) hb);have n4_:=Aside0.mk (Kd.R_lower (Kd.R_new' (Kd.R_new' (Kd.R_new' ho0 (Kd.R_lt (by (with_reducible repeat (first | apply Kd.R_alloc | apply Kd.R_drewN | apply Kd.R_drew));exact HO_4.out))) (Kd.R_lt (by (with_reducible repeat (first | apply Kd.R_alloc | apply Kd.R_drewN | apply Kd.R_drew));exact HO_7.out))) (Kd.R_lt (by (with_reducible repeat (first | apply Kd.R_alloc | apply Kd.R_drewN | apply Kd.R_drew));exact HO_11.out))) (below_size (by repeat (first | (with_reducible first | exact HB.out | apply below_alloc | apply pw_below_drewN | apply below_drew1) | exact HB.out))));have n5_:=Aside0.mk (below_step (by repeat (first | (with_reducible first | exact HB.out | apply below_alloc | apply pw_below_drewN | apply below_drew1) | exact HB.out)) hb);clear HO_3;clear HO_4;clear HO_7;clear HO_11;clear HB;have HO_3:=n0_;have HO_4:=n1_;have HO_7:=n2_;have HO_11:=n3_;have HO1011:=n4_;have HB:=n5_;clear n0_ n1_ n2_ n3_ n4_ n5_;(try clear hb);(try clear hb2);(try clear hk);(try clear hi);(try clear ho0);obtain ⟨Ao58,co58,eo58⟩:=Kd.R_slice HO_7.out;subst eo58;obtain ⟨Ao59,co59,eo59⟩:=Kd.R_slice HO1011.out;subst eo59) | (go_at_call 45;(with_reducible refine (impl_HistorySame.calls k2 _ _ t974 _ _ x7_2 _ _ t1008 t1012 _ ?side1 ?side2 ?side3 ?side4 ?side5 ?side6 A55.out).mono ?_);(case side1=>repeat (first | exact (Kd.S_reads' HO_3.out).2.2 | (with_reducible refine Kd.C_alloc ?_ _) | (with_reducible refine Kd.C_drewN ?_ _) | (with_reducible refine Kd.C_drew ?_)));(case side2=>exact (Kd.S_reads' HO_3.out).2.1);(case side3=>repeat (first | exact (Kd.R_reads' HO_7.out).2.2 | (with_reducible refine Kd.C_alloc ?_ _) | (with_reducible refine Kd.C_drewN ?_ _) | (with_reducible refine Kd.C_drew ?_)));(case side4=>exact (Kd.R_reads' HO_7.out).2.1);(case side5=>repeat (first | exact (Kd.R_reads' HO1011.out).2.2 | (with_reducible refine Kd.C_alloc ?_ _) | (with_reducible refine Kd.C_drewN ?_ _) | (with_reducible refine Kd.C_drew ?_)));(case side6=>exact (Kd.R_reads' HO1011.out).2.1);rintro e w60 ⟨rfl,hb⟩;have n0_:=Aside0.mk (Kd.S_below (by (with_reducible repeat (first | apply Kd.S_alloc | apply Kd.S_drewN | apply Kd.S_drew));exact HO_3.out) hb);have n1_:=Aside0.mk (Kd.R_below (by (with_reducible repeat (first | apply Kd.R_alloc | apply Kd.R_drewN | apply Kd.R_drew));exact HO_4.out) hb);have n2_:=Aside0.mk (Kd.R_below (by (with_reducible repeat (first | apply Kd.R_alloc | apply Kd.R_drewN | apply Kd.R_drew));exact HO_7.out) hb);have n3_:=Aside0.mk (Kd.R_below (by (with_reducible repeat (first | apply Kd.R_alloc | apply Kd.R_drewN | apply Kd.R_drew));exact HO_11.out) hb);have n4_:=Aside0.mk (Kd.R_below (by (with_reducible repeat (first | apply Kd.R_alloc | apply Kd.R_drewN | apply Kd.R_drew));exact HO1011.out) hb);have n5_:=Aside0.mk (below_step (by repeat (first | (with_reducible first | exact HB.out | apply below_alloc | apply pw_below_drewN | apply below_drew1) | exact HB.out)) hb);clear HO_3;clear HO_4;clear HO_7;clear HO_11;clear HO1011;clear HB;have HO_3:=n0_;have HO_4:=n1_;have HO_7:=n2_;have HO_11:=n3_;have HO1011:=n4_;have HB:=n5_;clear n0_ n1_ n2_ n3_ n4_ n5_;(try clear hb);(try clear hb2);(try clear hk);(try clear hi)))
           go_ret
           exact ⟨by first | rfl | (simp [errW_none,errW_some] <;> rfl) | (simp [*,errW_none,errW_some] <;> rfl),by repeat (first | (with_reducible first | exact HB.out | apply below_alloc | apply pw_below_drewN | apply below_drew1) | exact HB.out)⟩
          ·replace c54:=Bool.eq_false_iff.mpr c54
           subst c54
           have H1:(some false) = some r:=by rw [if_neg (show ¬ (false = true) by decide)] at H;exact H
           clear H
           have H:=H1
           clear H1
           obtain rfl:=Option.some.inj H
           obtain ⟨Ao61,co61,eo61⟩:=Kd.R_slice HO_11.out
           subst eo61
           go_wp2_with (first | ((with_reducible refine gate_callee (f:=47) rfl ?_);refine goesL_ (some 90) rfl rfl Try.func47 (by kernel_rfl) rfl #[.slice Ao8 t974.length co8,.slice Ao61 x11_2.length co61,.int .i64 t976,.int .i64 t977] rfl (by (try simp only [List.map_toArray,List.map_cons,List.map_nil]);first | done | rfl | (simp only [List.length_drop,List.length_take];rfl)) ?_;(with_reducible refine (impl_HistoryBack.calls k2 _ _ t974 _ _ x11_2 t976 t977 t1008 false _ ?side1 ?side2 ?side3 ?side4 A52.out).mono ?_);(case side1=>repeat (first | exact (Kd.S_reads' HO_3.out).2.2 | (with_reducible refine Kd.C_alloc ?_ _) | (with_reducible refine Kd.C_drewN ?_ _) | (with_reducible refine Kd.C_drew ?_)));(case side2=>exact (Kd.S_reads' HO_3.out).2.1);(case side3=>repeat (first | exact (Kd.R_reads' HO_11.out).2.2 | (with_reducible refine Kd.C_alloc ?_ _) | (with_reducible refine Kd.C_drewN ?_ _) | (with_reducible refine Kd.C_drew ?_)));(case side4=>exact (Kd.R_reads' HO_11.out).2.1);rintro e w62 ⟨v1010,rfl,ho0,hb⟩;refine ⟨_,rfl,?_⟩;have n0_:=Aside0.mk (Kd.S_below (by (with_reducible repeat (first | apply Kd.S_alloc | apply Kd.S_drewN | apply Kd.S_drew));exact HO_3.out) hb);have n1_:=Aside0.mk (Kd.R_elder' (by (with_reducible repeat (first | apply Kd.R_alloc | apply Kd.R_drewN | apply Kd.R_drew));exact HO_4.out) (Kd.R_base ho0) hb);have n2_:=Aside0.mk (Kd.R_elder' (by (with_reducible repeat (first | apply Kd.R_alloc | apply Kd.R_drewN | apply Kd.R_drew));exact HO_7.out) (Kd.R_base ho0) hb);have n3_:=Aside0.mk (Kd.R_elder' (by (with_reducible repeat (first | apply Kd.R_alloc | apply Kd.R_drewN | apply Kd.R_drew));exact HO_11.out) (Kd.R_base ho0) hb);have n4_:=Aside0.mk (Kd.R_lower (Kd.R_new' (Kd.R_new' (Kd.R_new' ho0 (Kd.R_lt (by (with_reducible repeat (first | apply Kd.R_alloc | apply Kd.R_drewN | apply Kd.R_drew));exact HO_4.out))) (Kd.R_lt (by (with_reducible repeat (first | apply Kd.R_alloc | apply Kd.R_drewN | apply Kd.R_drew));exact HO_7.out))) (Kd.R_lt (by (with_reducible repeat (first | apply Kd.R_alloc | apply Kd.R_drewN | apply Kd.R_drew));exact HO_11.out))) (below_size (by repeat (first | (with_reducible first | exact HB.out | apply below_alloc | apply pw_below_drewN | apply below_drew1) | exact HB.out))));have n5_:=Aside0.mk (below_step (by repeat (first | (with_reducible first | exact HB.out | apply below_alloc | apply pw_below_drewN | apply below_drew1) | exact HB.out)) hb);clear HO_3;clear HO_4;clear HO_7;clear HO_11;clear HB;have HO_3:=n0_;have HO_4:=n1_;have HO_7:=n2_;have HO_11:=n3_;have HO1011:=n4_;have HB:=n5_;clear n0_ n1_ n2_ n3_ n4_ n5_;(try clear hb);(try clear hb2);(try clear hk);(try clear hi);(try clear ho0)))
           go_ret
           exact ⟨by first | rfl | (simp [errW_none,errW_some] <;> rfl) | (simp [*,errW_none,errW_some] <;> rfl),by repeat (first | (with_reducible first | exact HB.out | apply below_alloc | apply pw_below_drewN | apply below_drew1) | exact HB.out)⟩
         ·replace c53:=Bool.eq_false_iff.mpr c53
          subst c53
          have H1:(some true) = some r:=by rw [if_neg (show ¬ (false = true) by decide)] at H;exact H
          clear H
          have H:=H1
          clear H1
          obtain rfl:=Option.some.inj H
          obtain ⟨Ao63,co63,eo63⟩:=Kd.R_slice HO_11.out
          subst eo63
          go_wp2_with (first | ((with_reducible refine gate_callee (f:=47) rfl ?_);refine goesL_ (some 90) rfl rfl Try.func47 (by kernel_rfl) rfl #[.slice Ao8 t974.length co8,.slice Ao63 x11_2.length co63,.int .i64 t976,.int .i64 t977] rfl (by (try simp only [List.map_toArray,List.map_cons,List.map_nil]);first | done | rfl | (simp only [List.length_drop,List.length_take];rfl)) ?_;(with_reducible refine (impl_HistoryBack.calls k2 _ _ t974 _ _ x11_2 t976 t977 t1008 t1009 _ ?side1 ?side2 ?side3 ?side4 A52.out).mono ?_);(case side1=>repeat (first | exact (Kd.S_reads' HO_3.out).2.2 | (with_reducible refine Kd.C_alloc ?_ _) | (with_reducible refine Kd.C_drewN ?_ _) | (with_reducible refine Kd.C_drew ?_)));(case side2=>exact (Kd.S_reads' HO_3.out).2.1);(case side3=>repeat (first | exact (Kd.R_reads' HO_11.out).2.2 | (with_reducible refine Kd.C_alloc ?_ _) | (with_reducible refine Kd.C_drewN ?_ _) | (with_reducible refine Kd.C_drew ?_)));(case side4=>exact (Kd.R_reads' HO_11.out).2.1);rintro e w64 ⟨v1010,rfl,ho0,hb⟩;refine ⟨_,rfl,?_⟩;have n0_:=Aside0.mk (Kd.S_below (by (with_reducible repeat (first | apply Kd.S_alloc | apply Kd.S_drewN | apply Kd.S_drew));exact HO_3.out) hb);have n1_:=Aside0.mk (Kd.R_elder' (by (with_reducible repeat (first | apply Kd.R_alloc | apply Kd.R_drewN | apply Kd.R_drew));exact HO_4.out) (Kd.R_base ho0) hb);have n2_:=Aside0.mk (Kd.R_elder' (by (with_reducible repeat (first | apply Kd.R_alloc | apply Kd.R_drewN | apply Kd.R_drew));exact HO_7.out) (Kd.R_base ho0) hb);have n3_:=Aside0.mk (Kd.R_elder' (by (with_reducible repeat (first | apply Kd.R_alloc | apply Kd.R_drewN | apply Kd.R_drew));exact HO_11.out) (Kd.R_base ho0) hb);have n4_:=Aside0.mk (Kd.R_lower (Kd.R_new' (Kd.R_new' (Kd.R_new' ho0 (Kd.R_lt (by (with_reducible repeat (first | apply Kd.R_alloc | apply Kd.R_drewN | apply Kd.R_drew));exact HO_4.out))) (Kd.R_lt (by (with_reducible repeat (first | apply Kd.R_alloc | apply Kd.R_drewN | apply Kd.R_drew));exact HO_7.out))) (Kd.R_lt (by (with_reducible repeat (first | apply Kd.R_alloc | apply Kd.R_drewN | apply Kd.R_drew));exact HO_11.out))) (below_size (by repeat (first | (with_reducible first | exact HB.out | apply below_alloc | apply pw_below_drewN | apply below_drew1) | exact HB.out))));have n5_:=Aside0.mk (below_step (by repeat (first | (with_reducible first | exact HB.out | apply below_alloc | apply pw_below_drewN | apply below_drew1) | exact HB.out)) hb);clear HO_3;clear HO_4;clear HO_7;clear HO_11;clear HB;have HO_3:=n0_;have HO_4:=n1_;have HO_7:=n2_;have HO_11:=n3_;have HO1011:=n4_;have HB:=n5_;clear n0_ n1_ n2_ n3_ n4_ n5_;(try clear hb);(try clear hb2);(try clear hk);(try clear hi);(try clear ho0)))
          go_ret
          exact ⟨by first | rfl | (simp [errW_none,errW_some] <;> rfl) | (simp [*,errW_none,errW_some] <;> rfl),by repeat (first | (with_reducible first | exact HB.out | apply below_alloc | apply pw_below_drewN | apply below_drew1) | exact HB.out)⟩
     ·rw [if_neg c19] at H
      exact absurd H (by simp)
def laws_FnBackSame.Pure:Prop:=∀ (l0:List Int),l0.length ≤ maxLen → l0.length * 1 ≤ 140737488351232 → (∀ x ∈ l0,(Lit.int .u8 x).wf = true) → ∃ k,laws_FnBackSame.f k l0 = some true
theorem laws_FnBackSame.walk (P:laws_FnBackSame.Pure) (a0:Option Addr) (len0 cap0:Nat) (z0:List Int) (w:World) (w0:(a0 = none∧len0 = 0∧cap0 = 0∧z0 = []) ∨ ∃ x,a0 = some x∧len0 ≤ cap0∧cap0 ≤ maxLen∧z0.length = cap0∧(∀ i,i < z0.length → w.cell? (x.add i) = some (.int .u8 (z0.getD i 0)))∧∀ n ∈ z0,(Lit.int .u8 n).wf = true) (y0:len0 * 1 ≤ 140737488351232) :
  Calls Try.prog 17 #[.slice a0 len0 cap0] w fun e w'=>e = .returned (.bool true)∧Below w.heap.size w w':=by
 obtain ⟨l0,rfl,hr0,hm0,hw0,hc0⟩:=ReadsInt.ofRowC w0
 obtain ⟨k,h⟩:=P l0 hm0 y0 hw0
 refine (laws_FnBackSame.calls k _ _ l0 true w (Kd.C_of_reads (d:=(0:Int)) (h1:=fun _=>rfl) hr0) hc0 h).mono ?_
 rintro e w' ⟨rfl,hd⟩
 exact ⟨rfl,hd⟩
end Go.Proofs.Ythljlnkanllpnaa.P
