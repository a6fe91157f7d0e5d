/- The walks of FnExactHistorySame: a straight line of calls whose answers are known. No condition. -/
import Derived.Test.YthljlnkanllpnaaP0
import Derived.Test.YthljlnkanllpnaaP1
import Derived.Test.YthljlnkanllpnaaP2
import Derived.Test.YthljlnkanllpnaaHSame
import Derived.Test.YthljlnkanllpnaaObj
import Derived.Test.YthljlnkanllpnaaHMark
namespace Go.Proofs.Ythljlnkanllpnaa.P
open Go.RowKit Go.Proofs.YthljlnkanllpnaaW.PrintWords Go.Proofs.YthljlnkanllpnaaW.PrintLast Go.Proofs.YthljlnkanllpnaaW.PrintMore Go.Proofs.Ythljlnkanllpnaa.Obj
set_option linter.unusedVariables false
set_option linter.unusedSimpArgs false
set_option maxHeartbeats 8000000 in
set_option maxRecDepth 100000 in
theorem exSame_main (k : Nat) (A0 : Option Addr) (c0 : Nat) (x0 : List (List Int)) (A1 : Option Addr) (c1 : Nat) (x1 : List S71) (A2 : Option Addr) (c2 : Nat) (x2 : List S71) (r q p : Int) (g h : List S32) (b : Bool) (w : World) (hr0 : Kd.C (Kd.slice 3 (Kd.int .i64)) w A0 x0.length x0) (hc0 : x0.length ≤ c0) (hr1 : Kd.C k71 w A1 x1.length x1) (hc1 : x1.length ≤ c1) (hr2 : Kd.C k71 w A2 x2.length x2) (hc2 : x2.length ≤ c2) (f1 : laws_szIntSS.f k x0 1048576 = some r) (f2 : laws_szEventS.f x1 r = some q) (f3 : laws_szEventS.f x2 q = some p) (f4 : laws_toIntSS.f k x0 = some x0) (f5 : laws_toEventS.f k x1 = some g) (f6 : laws_toEventS.f k x2 = some h) (f7 : spec_HistorySame.f k x0 g h = some b) (f8 : impl_HistorySame.f k x0 g h = some b) (f9 : laws_eqIntSS.f k x0 x0 = some true) (f10 : laws_eqEventS.f k g g = some true) (f11 : laws_eqEventS.f k h h = some true) (b1 : decide (r < 0) = false) (b2 : decide (q < 0) = false) (b3 : decide (p < 0) = false) :
    Calls Try.prog 10 #[.slice A0 x0.length c0, .slice A1 x1.length c1, .slice A2 x2.length c2] w fun e w' => e = .returned (.bool true) ∧ Below w.heap.size w w' := by
  have HR0 := Aside0.mk hr0
  have HC0 := Aside0.mk hc0
  clear hr0 hc0
  have HR1 := Aside0.mk hr1
  have HC1 := Aside0.mk hc1
  clear hr1 hc1
  have HR2 := Aside0.mk hr2
  have HC2 := Aside0.mk hc2
  clear hr2 hc2
  have Ff1 := Aside0.mk f1
  clear f1
  have Ff2 := Aside0.mk f2
  clear f2
  have Ff3 := Aside0.mk f3
  clear f3
  have Ff4 := Aside0.mk f4
  clear f4
  have Ff5 := Aside0.mk f5
  clear f5
  have Ff6 := Aside0.mk f6
  clear f6
  have Ff7 := Aside0.mk f7
  clear f7
  have Ff8 := Aside0.mk f8
  clear f8
  have Ff9 := Aside0.mk f9
  clear f9
  have Ff10 := Aside0.mk f10
  clear f10
  have Ff11 := Aside0.mk f11
  clear f11
  have HB := Aside0.mk (Below.refl w.heap.size w)
  have hs := Step.mk 1
  go_enter Try.func10, Try.ntmps10
  go_wp2_with (first | (go_at_call 22; (have _ck : Step 1 := hs); (try simp only [i64_w, i32_w]); (with_reducible refine (laws_szIntSS.calls k _ _ _ _ _ _ (Kd.C_below HR0.out HB.out) HC0.out Ff1.out).mono ?_); rintro e w1_ ⟨rfl, hd_⟩; have hb_ := Drawn0.below hd_; clear hd_; have Z1 := Aside0.mk (show w.heap.size ≤ w1_.heap.size from hb_.size); have n0_ := Aside0.mk (below_step HB.out hb_); clear HB hb_; have HB := n0_; clear n0_; clear hs _ck; have hs := Step.mk 2) | (go_at_call 23; (have _ck : Step 2 := hs); (try simp only [i64_w, i32_w]); (with_reducible refine (laws_szEventS.calls _ _ _ _ _ _ (Kd.C_below HR1.out HB.out) HC1.out Ff2.out).mono ?_); rintro e w2_ ⟨rfl, hd_⟩; have hb_ := Drawn0.below hd_; clear hd_; have Z2 := Aside0.mk (show w1_.heap.size ≤ w2_.heap.size from hb_.size); have n0_ := Aside0.mk (below_step HB.out hb_); clear HB hb_; have HB := n0_; clear n0_; clear hs _ck; have hs := Step.mk 3) | (go_at_call 23; (have _ck : Step 3 := hs); (try simp only [i64_w, i32_w]); (with_reducible refine (laws_szEventS.calls _ _ _ _ _ _ (Kd.C_below HR2.out HB.out) HC2.out Ff3.out).mono ?_); rintro e w3_ ⟨rfl, hd_⟩; have hb_ := Drawn0.below hd_; clear hd_; have Z3 := Aside0.mk (show w2_.heap.size ≤ w3_.heap.size from hb_.size); have n0_ := Aside0.mk (below_step HB.out hb_); clear HB hb_; have HB := n0_; clear n0_; clear hs _ck; have hs := Step.mk 4) | (go_at_call 25; (have _ck : Step 4 := hs); (try simp only [i64_w, i32_w]); (with_reducible refine (laws_toIntSS.calls k _ _ _ _ _ (Kd.C_below HR0.out HB.out) HC0.out Ff4.out).mono ?_); rintro e w4_ ⟨v4_, rfl, hm_, hb_⟩; obtain ⟨A4_, c4_, rfl⟩ := Kd.S_slice hm_; have Z4 := Aside0.mk (show w3_.heap.size ≤ w4_.heap.size from hb_.size); have n0_ := Aside0.mk (obj_S hm_ hb_.size); have n1_ := Aside0.mk (HB.out.size); have n2_ := Aside0.mk (below_step HB.out hb_); clear HB hm_ hb_; have O4 := n0_; have L4 := n1_; have HB := n2_; clear n0_ n1_ n2_; clear hs _ck; have hs := Step.mk 5) | (go_at_call 26; (have _ck : Step 5 := hs); (try simp only [i64_w, i32_w]); (with_reducible refine (laws_toEventS.calls k _ _ _ _ _ (Kd.C_below HR1.out HB.out) HC1.out Ff5.out).mono ?_); rintro e w5_ ⟨v5_, rfl, hm_, hb_⟩; obtain ⟨A5_, c5_, rfl⟩ := Kd.R_slice hm_; have Z5 := Aside0.mk (show w4_.heap.size ≤ w5_.heap.size from hb_.size); have n0_ := Aside0.mk (O4.out.below hb_); have n1_ := Aside0.mk (obj_R hm_ hb_.size); have n2_ := Aside0.mk (HB.out.size); have n3_ := Aside0.mk (below_step HB.out hb_); clear O4 HB hm_ hb_; have O4 := n0_; have O5 := n1_; have L5 := n2_; have HB := n3_; clear n0_ n1_ n2_ n3_; clear hs _ck; have hs := Step.mk 6) | (go_at_call 26; (have _ck : Step 6 := hs); (try simp only [i64_w, i32_w]); (with_reducible refine (laws_toEventS.calls k _ _ _ _ _ (Kd.C_below HR2.out HB.out) HC2.out Ff6.out).mono ?_); rintro e w6_ ⟨v6_, rfl, hm_, hb_⟩; obtain ⟨A6_, c6_, rfl⟩ := Kd.R_slice hm_; have Z6 := Aside0.mk (show w5_.heap.size ≤ w6_.heap.size from hb_.size); have n0_ := Aside0.mk (O4.out.below hb_); have n1_ := Aside0.mk (O5.out.below hb_); have n2_ := Aside0.mk (obj_R hm_ hb_.size); have n3_ := Aside0.mk (HB.out.size); have n4_ := Aside0.mk (below_step HB.out hb_); clear O4 O5 HB hm_ hb_; have O4 := n0_; have O5 := n1_; have O6 := n2_; have L6 := n3_; have HB := n4_; clear n0_ n1_ n2_ n3_ n4_; clear hs _ck; have hs := Step.mk 7) | (go_at_call 44; (have _ck : Step 7 := hs); (try simp only [i64_w, i32_w]); (with_reducible refine (spec_HistorySame.calls k _ _ _ _ _ _ _ _ _ _ _ (Kd.S_reads' O4.out.now).2.2 (Nat.le_trans (Nat.le_of_eq (Kd.S_reads' O4.out.now).1.symm) (Kd.S_reads' O4.out.now).2.1) (Kd.R_reads' O5.out.now).2.2 (Nat.le_trans (Nat.le_of_eq (Kd.R_reads' O5.out.now).1.symm) (Kd.R_reads' O5.out.now).2.1) (Kd.R_reads' O6.out.now).2.2 (Nat.le_trans (Nat.le_of_eq (Kd.R_reads' O6.out.now).1.symm) (Kd.R_reads' O6.out.now).2.1) Ff7.out).mono ?_); rintro e w7_ ⟨rfl, hb_⟩; have Z7 := Aside0.mk (show w6_.heap.size ≤ w7_.heap.size from hb_.size); have n0_ := Aside0.mk (O4.out.below hb_); have n1_ := Aside0.mk (O5.out.below hb_); have n2_ := Aside0.mk (O6.out.below hb_); have n3_ := Aside0.mk (below_step HB.out hb_); clear O4 O5 O6 HB hb_; have O4 := n0_; have O5 := n1_; have O6 := n2_; have HB := n3_; clear n0_ n1_ n2_ n3_; clear hs _ck; have hs := Step.mk 8) | (go_at_call 25; (have _ck : Step 8 := hs); (try simp only [i64_w, i32_w]); (with_reducible refine (laws_toIntSS.calls k _ _ _ _ _ (Kd.C_below HR0.out HB.out) HC0.out Ff4.out).mono ?_); rintro e w8_ ⟨v8_, rfl, hm_, hb_⟩; obtain ⟨A8_, c8_, rfl⟩ := Kd.S_slice hm_; have Z8 := Aside0.mk (show w7_.heap.size ≤ w8_.heap.size from hb_.size); have n0_ := Aside0.mk (O4.out.below hb_); have n1_ := Aside0.mk (O5.out.below hb_); have n2_ := Aside0.mk (O6.out.below hb_); have n3_ := Aside0.mk (obj_S hm_ hb_.size); have n4_ := Aside0.mk (HB.out.size); have n5_ := Aside0.mk (below_step HB.out hb_); clear O4 O5 O6 HB hm_ hb_; have O4 := n0_; have O5 := n1_; have O6 := n2_; have O8 := n3_; have L8 := n4_; have HB := n5_; clear n0_ n1_ n2_ n3_ n4_ n5_; clear hs _ck; have hs := Step.mk 9) | (go_at_call 26; (have _ck : Step 9 := hs); (try simp only [i64_w, i32_w]); (with_reducible refine (laws_toEventS.calls k _ _ _ _ _ (Kd.C_below HR1.out HB.out) HC1.out Ff5.out).mono ?_); rintro e w9_ ⟨v9_, rfl, hm_, hb_⟩; obtain ⟨A9_, c9_, rfl⟩ := Kd.R_slice hm_; have Z9 := Aside0.mk (show w8_.heap.size ≤ w9_.heap.size from hb_.size); have n0_ := Aside0.mk (O4.out.below hb_); have n1_ := Aside0.mk (O5.out.below hb_); have n2_ := Aside0.mk (O6.out.below hb_); have n3_ := Aside0.mk (O8.out.below hb_); have n4_ := Aside0.mk (obj_R hm_ hb_.size); have n5_ := Aside0.mk (HB.out.size); have n6_ := Aside0.mk (below_step HB.out hb_); clear O4 O5 O6 O8 HB hm_ hb_; have O4 := n0_; have O5 := n1_; have O6 := n2_; have O8 := n3_; have O9 := n4_; have L9 := n5_; have HB := n6_; clear n0_ n1_ n2_ n3_ n4_ n5_ n6_; clear hs _ck; have hs := Step.mk 10) | (go_at_call 26; (have _ck : Step 10 := hs); (try simp only [i64_w, i32_w]); (with_reducible refine (laws_toEventS.calls k _ _ _ _ _ (Kd.C_below HR2.out HB.out) HC2.out Ff6.out).mono ?_); rintro e w10_ ⟨v10_, rfl, hm_, hb_⟩; obtain ⟨A10_, c10_, rfl⟩ := Kd.R_slice hm_; have Z10 := Aside0.mk (show w9_.heap.size ≤ w10_.heap.size from hb_.size); have n0_ := Aside0.mk (O4.out.below hb_); have n1_ := Aside0.mk (O5.out.below hb_); have n2_ := Aside0.mk (O6.out.below hb_); have n3_ := Aside0.mk (O8.out.below hb_); have n4_ := Aside0.mk (O9.out.below hb_); have n5_ := Aside0.mk (obj_R hm_ hb_.size); have n6_ := Aside0.mk (HB.out.size); have n7_ := Aside0.mk (below_step HB.out hb_); clear O4 O5 O6 O8 O9 HB hm_ hb_; have O4 := n0_; have O5 := n1_; have O6 := n2_; have O8 := n3_; have O9 := n4_; have O10 := n5_; have L10 := n6_; have HB := n7_; clear n0_ n1_ n2_ n3_ n4_ n5_ n6_ n7_; clear hs _ck; have hs := Step.mk 11) | (go_at_call 45; (have _ck : Step 11 := hs); (try simp only [i64_w, i32_w]); (with_reducible refine (impl_HistorySame.calls k _ _ _ _ _ _ _ _ _ _ _ (Kd.S_reads' O8.out.now).2.2 (Nat.le_trans (Nat.le_of_eq (Kd.S_reads' O8.out.now).1.symm) (Kd.S_reads' O8.out.now).2.1) (Kd.R_reads' O9.out.now).2.2 (Nat.le_trans (Nat.le_of_eq (Kd.R_reads' O9.out.now).1.symm) (Kd.R_reads' O9.out.now).2.1) (Kd.R_reads' O10.out.now).2.2 (Nat.le_trans (Nat.le_of_eq (Kd.R_reads' O10.out.now).1.symm) (Kd.R_reads' O10.out.now).2.1) Ff8.out).mono ?_); rintro e w11_ ⟨rfl, hb_⟩; have Z11 := Aside0.mk (show w10_.heap.size ≤ w11_.heap.size from hb_.size); have n0_ := Aside0.mk (O4.out.below hb_); have n1_ := Aside0.mk (O5.out.below hb_); have n2_ := Aside0.mk (O6.out.below hb_); have n3_ := Aside0.mk (O8.out.below hb_); have n4_ := Aside0.mk (O9.out.below hb_); have n5_ := Aside0.mk (O10.out.below hb_); have n6_ := Aside0.mk (below_step HB.out hb_); clear O4 O5 O6 O8 O9 O10 HB hb_; have O4 := n0_; have O5 := n1_; have O6 := n2_; have O8 := n3_; have O9 := n4_; have O10 := n5_; have HB := n6_; clear n0_ n1_ n2_ n3_ n4_ n5_ n6_; clear hs _ck; have hs := Step.mk 12) | (go_at_call 25; (have _ck : Step 12 := hs); (try simp only [i64_w, i32_w]); (with_reducible refine (laws_toIntSS.calls k _ _ _ _ _ (Kd.C_below HR0.out HB.out) HC0.out Ff4.out).mono ?_); rintro e w12_ ⟨v12_, rfl, hm_, hb_⟩; obtain ⟨A12_, c12_, rfl⟩ := Kd.S_slice hm_; have Z12 := Aside0.mk (show w11_.heap.size ≤ w12_.heap.size from hb_.size); have n0_ := Aside0.mk (O4.out.below hb_); have n1_ := Aside0.mk (O5.out.below hb_); have n2_ := Aside0.mk (O6.out.below hb_); have n3_ := Aside0.mk (O8.out.below hb_); have n4_ := Aside0.mk (O9.out.below hb_); have n5_ := Aside0.mk (O10.out.below hb_); have n6_ := Aside0.mk (obj_S hm_ hb_.size); have n7_ := Aside0.mk (HB.out.size); have n8_ := Aside0.mk (below_step HB.out hb_); clear O4 O5 O6 O8 O9 O10 HB hm_ hb_; have O4 := n0_; have O5 := n1_; have O6 := n2_; have O8 := n3_; have O9 := n4_; have O10 := n5_; have O12 := n6_; have L12 := n7_; have HB := n8_; clear n0_ n1_ n2_ n3_ n4_ n5_ n6_ n7_ n8_; clear hs _ck; have hs := Step.mk 13) | (go_at_call 28; (have _ck : Step 13 := hs); (try simp only [i64_w, i32_w]); (with_reducible refine (laws_eqIntSS.calls k _ _ _ _ _ _ _ _ (Kd.S_reads' O8.out.now).2.2 (Nat.le_trans (Nat.le_of_eq (Kd.S_reads' O8.out.now).1.symm) (Kd.S_reads' O8.out.now).2.1) (Kd.S_reads' O12.out.now).2.2 (Nat.le_trans (Nat.le_of_eq (Kd.S_reads' O12.out.now).1.symm) (Kd.S_reads' O12.out.now).2.1) Ff9.out).mono ?_); rintro e w13_ ⟨rfl, hd_⟩; have hb_ := Drawn0.below hd_; clear hd_; have Z13 := Aside0.mk (show w12_.heap.size ≤ w13_.heap.size from hb_.size); have n0_ := Aside0.mk (O4.out.below hb_); have n1_ := Aside0.mk (O5.out.below hb_); have n2_ := Aside0.mk (O6.out.below hb_); have n3_ := Aside0.mk (O8.out.below hb_); have n4_ := Aside0.mk (O9.out.below hb_); have n5_ := Aside0.mk (O10.out.below hb_); have n6_ := Aside0.mk (O12.out.below hb_); have n7_ := Aside0.mk (below_step HB.out hb_); clear O4 O5 O6 O8 O9 O10 O12 HB hb_; have O4 := n0_; have O5 := n1_; have O6 := n2_; have O8 := n3_; have O9 := n4_; have O10 := n5_; have O12 := n6_; have HB := n7_; clear n0_ n1_ n2_ n3_ n4_ n5_ n6_ n7_; clear hs _ck; have hs := Step.mk 14) | (go_at_call 26; (have _ck : Step 14 := hs); (try simp only [i64_w, i32_w]); (with_reducible refine (laws_toEventS.calls k _ _ _ _ _ (Kd.C_below HR1.out HB.out) HC1.out Ff5.out).mono ?_); rintro e w14_ ⟨v14_, rfl, hm_, hb_⟩; obtain ⟨A14_, c14_, rfl⟩ := Kd.R_slice hm_; have Z14 := Aside0.mk (show w13_.heap.size ≤ w14_.heap.size from hb_.size); have n0_ := Aside0.mk (O4.out.below hb_); have n1_ := Aside0.mk (O5.out.below hb_); have n2_ := Aside0.mk (O6.out.below hb_); have n3_ := Aside0.mk (O8.out.below hb_); have n4_ := Aside0.mk (O9.out.below hb_); have n5_ := Aside0.mk (O10.out.below hb_); have n6_ := Aside0.mk (O12.out.below hb_); have n7_ := Aside0.mk (obj_R hm_ hb_.size); have n8_ := Aside0.mk (HB.out.size); have n9_ := Aside0.mk (below_step HB.out hb_); clear O4 O5 O6 O8 O9 O10 O12 HB hm_ hb_; have O4 := n0_; have O5 := n1_; have O6 := n2_; have O8 := n3_; have O9 := n4_; have O10 := n5_; have O12 := n6_; have O14 := n7_; have L14 := n8_; have HB := n9_; clear n0_ n1_ n2_ n3_ n4_ n5_ n6_ n7_ n8_ n9_; clear hs _ck; have hs := Step.mk 15) | (go_at_call 29; (have _ck : Step 15 := hs); (try simp only [i64_w, i32_w]); (with_reducible refine (laws_eqEventS.calls k _ _ _ _ _ _ _ _ (Kd.R_reads' O9.out.now).2.2 (Nat.le_trans (Nat.le_of_eq (Kd.R_reads' O9.out.now).1.symm) (Kd.R_reads' O9.out.now).2.1) (Kd.R_reads' O14.out.now).2.2 (Nat.le_trans (Nat.le_of_eq (Kd.R_reads' O14.out.now).1.symm) (Kd.R_reads' O14.out.now).2.1) Ff10.out).mono ?_); rintro e w15_ ⟨rfl, hb_⟩; have Z15 := Aside0.mk (show w14_.heap.size ≤ w15_.heap.size from hb_.size); have n0_ := Aside0.mk (O4.out.below hb_); have n1_ := Aside0.mk (O5.out.below hb_); have n2_ := Aside0.mk (O6.out.below hb_); have n3_ := Aside0.mk (O8.out.below hb_); have n4_ := Aside0.mk (O9.out.below hb_); have n5_ := Aside0.mk (O10.out.below hb_); have n6_ := Aside0.mk (O12.out.below hb_); have n7_ := Aside0.mk (O14.out.below hb_); have n8_ := Aside0.mk (below_step HB.out hb_); clear O4 O5 O6 O8 O9 O10 O12 O14 HB hb_; have O4 := n0_; have O5 := n1_; have O6 := n2_; have O8 := n3_; have O9 := n4_; have O10 := n5_; have O12 := n6_; have O14 := n7_; have HB := n8_; clear n0_ n1_ n2_ n3_ n4_ n5_ n6_ n7_ n8_; clear hs _ck; have hs := Step.mk 16) | (go_at_call 26; (have _ck : Step 16 := hs); (try simp only [i64_w, i32_w]); (with_reducible refine (laws_toEventS.calls k _ _ _ _ _ (Kd.C_below HR2.out HB.out) HC2.out Ff6.out).mono ?_); rintro e w16_ ⟨v16_, rfl, hm_, hb_⟩; obtain ⟨A16_, c16_, rfl⟩ := Kd.R_slice hm_; have Z16 := Aside0.mk (show w15_.heap.size ≤ w16_.heap.size from hb_.size); have n0_ := Aside0.mk (O4.out.below hb_); have n1_ := Aside0.mk (O5.out.below hb_); have n2_ := Aside0.mk (O6.out.below hb_); have n3_ := Aside0.mk (O8.out.below hb_); have n4_ := Aside0.mk (O9.out.below hb_); have n5_ := Aside0.mk (O10.out.below hb_); have n6_ := Aside0.mk (O12.out.below hb_); have n7_ := Aside0.mk (O14.out.below hb_); have n8_ := Aside0.mk (obj_R hm_ hb_.size); have n9_ := Aside0.mk (HB.out.size); have n10_ := Aside0.mk (below_step HB.out hb_); clear O4 O5 O6 O8 O9 O10 O12 O14 HB hm_ hb_; have O4 := n0_; have O5 := n1_; have O6 := n2_; have O8 := n3_; have O9 := n4_; have O10 := n5_; have O12 := n6_; have O14 := n7_; have O16 := n8_; have L16 := n9_; have HB := n10_; clear n0_ n1_ n2_ n3_ n4_ n5_ n6_ n7_ n8_ n9_ n10_; clear hs _ck; have hs := Step.mk 17) | (go_at_call 29; (have _ck : Step 17 := hs); (try simp only [i64_w, i32_w]); (with_reducible refine (laws_eqEventS.calls k _ _ _ _ _ _ _ _ (Kd.R_reads' O10.out.now).2.2 (Nat.le_trans (Nat.le_of_eq (Kd.R_reads' O10.out.now).1.symm) (Kd.R_reads' O10.out.now).2.1) (Kd.R_reads' O16.out.now).2.2 (Nat.le_trans (Nat.le_of_eq (Kd.R_reads' O16.out.now).1.symm) (Kd.R_reads' O16.out.now).2.1) Ff11.out).mono ?_); rintro e w17_ ⟨rfl, hb_⟩; have Z17 := Aside0.mk (show w16_.heap.size ≤ w17_.heap.size from hb_.size); have n0_ := Aside0.mk (O4.out.below hb_); have n1_ := Aside0.mk (O5.out.below hb_); have n2_ := Aside0.mk (O6.out.below hb_); have n3_ := Aside0.mk (O8.out.below hb_); have n4_ := Aside0.mk (O9.out.below hb_); have n5_ := Aside0.mk (O10.out.below hb_); have n6_ := Aside0.mk (O12.out.below hb_); have n7_ := Aside0.mk (O14.out.below hb_); have n8_ := Aside0.mk (O16.out.below hb_); have n9_ := Aside0.mk (below_step HB.out hb_); clear O4 O5 O6 O8 O9 O10 O12 O14 O16 HB hb_; have O4 := n0_; have O5 := n1_; have O6 := n2_; have O8 := n3_; have O9 := n4_; have O10 := n5_; have O12 := n6_; have O14 := n7_; have O16 := n8_; have HB := n9_; clear n0_ n1_ n2_ n3_ n4_ n5_ n6_ n7_ n8_ n9_; clear hs _ck; have hs := Step.mk 18))
  go_ret
  exact ⟨by first | rfl | simp, HB.out⟩
set_option maxHeartbeats 8000000 in
set_option maxRecDepth 100000 in
theorem exSame_r (k : Nat) (A0 : Option Addr) (c0 : Nat) (x0 : List (List Int)) (A1 : Option Addr) (c1 : Nat) (x1 : List S71) (A2 : Option Addr) (c2 : Nat) (x2 : List S71) (r : Int) (w : World) (hr0 : Kd.C (Kd.slice 3 (Kd.int .i64)) w A0 x0.length x0) (hc0 : x0.length ≤ c0) (hr1 : Kd.C k71 w A1 x1.length x1) (hc1 : x1.length ≤ c1) (hr2 : Kd.C k71 w A2 x2.length x2) (hc2 : x2.length ≤ c2) (f1 : laws_szIntSS.f k x0 1048576 = some r) (b1 : decide (r < 0) = true) :
    Calls Try.prog 10 #[.slice A0 x0.length c0, .slice A1 x1.length c1, .slice A2 x2.length c2] w fun e w' => e = .returned (.bool true) ∧ Below w.heap.size w w' := by
  have HR0 := Aside0.mk hr0
  have HC0 := Aside0.mk hc0
  clear hr0 hc0
  have HR1 := Aside0.mk hr1
  have HC1 := Aside0.mk hc1
  clear hr1 hc1
  have HR2 := Aside0.mk hr2
  have HC2 := Aside0.mk hc2
  clear hr2 hc2
  have Ff1 := Aside0.mk f1
  clear f1
  have HB := Aside0.mk (Below.refl w.heap.size w)
  have hs := Step.mk 1
  go_enter Try.func10, Try.ntmps10
  go_wp2_with (first | (go_at_call 22; (have _ck : Step 1 := hs); (try simp only [i64_w, i32_w]); (with_reducible refine (laws_szIntSS.calls k _ _ _ _ _ _ (Kd.C_below HR0.out HB.out) HC0.out Ff1.out).mono ?_); rintro e w1_ ⟨rfl, hd_⟩; have hb_ := Drawn0.below hd_; clear hd_; have Z1 := Aside0.mk (show w.heap.size ≤ w1_.heap.size from hb_.size); have n0_ := Aside0.mk (below_step HB.out hb_); clear HB hb_; have HB := n0_; clear n0_; clear hs _ck; have hs := Step.mk 2))
  go_ret
  exact ⟨by first | rfl | simp, HB.out⟩
set_option maxHeartbeats 8000000 in
set_option maxRecDepth 100000 in
theorem exSame_q (k : Nat) (A0 : Option Addr) (c0 : Nat) (x0 : List (List Int)) (A1 : Option Addr) (c1 : Nat) (x1 : List S71) (A2 : Option Addr) (c2 : Nat) (x2 : List S71) (r q : Int) (w : World) (hr0 : Kd.C (Kd.slice 3 (Kd.int .i64)) w A0 x0.length x0) (hc0 : x0.length ≤ c0) (hr1 : Kd.C k71 w A1 x1.length x1) (hc1 : x1.length ≤ c1) (hr2 : Kd.C k71 w A2 x2.length x2) (hc2 : x2.length ≤ c2) (f1 : laws_szIntSS.f k x0 1048576 = some r) (f2 : laws_szEventS.f x1 r = some q) (b1 : decide (r < 0) = false) (b2 : decide (q < 0) = true) :
    Calls Try.prog 10 #[.slice A0 x0.length c0, .slice A1 x1.length c1, .slice A2 x2.length c2] w fun e w' => e = .returned (.bool true) ∧ Below w.heap.size w w' := by
  have HR0 := Aside0.mk hr0
  have HC0 := Aside0.mk hc0
  clear hr0 hc0
  have HR1 := Aside0.mk hr1
  have HC1 := Aside0.mk hc1
  clear hr1 hc1
  have HR2 := Aside0.mk hr2
  have HC2 := Aside0.mk hc2
  clear hr2 hc2
  have Ff1 := Aside0.mk f1
  clear f1
  have Ff2 := Aside0.mk f2
  clear f2
  have HB := Aside0.mk (Below.refl w.heap.size w)
  have hs := Step.mk 1
  go_enter Try.func10, Try.ntmps10
  go_wp2_with (first | (go_at_call 22; (have _ck : Step 1 := hs); (try simp only [i64_w, i32_w]); (with_reducible refine (laws_szIntSS.calls k _ _ _ _ _ _ (Kd.C_below HR0.out HB.out) HC0.out Ff1.out).mono ?_); rintro e w1_ ⟨rfl, hd_⟩; have hb_ := Drawn0.below hd_; clear hd_; have Z1 := Aside0.mk (show w.heap.size ≤ w1_.heap.size from hb_.size); have n0_ := Aside0.mk (below_step HB.out hb_); clear HB hb_; have HB := n0_; clear n0_; clear hs _ck; have hs := Step.mk 2) | (go_at_call 23; (have _ck : Step 2 := hs); (try simp only [i64_w, i32_w]); (with_reducible refine (laws_szEventS.calls _ _ _ _ _ _ (Kd.C_below HR1.out HB.out) HC1.out Ff2.out).mono ?_); rintro e w2_ ⟨rfl, hd_⟩; have hb_ := Drawn0.below hd_; clear hd_; have Z2 := Aside0.mk (show w1_.heap.size ≤ w2_.heap.size from hb_.size); have n0_ := Aside0.mk (below_step HB.out hb_); clear HB hb_; have HB := n0_; clear n0_; clear hs _ck; have hs := Step.mk 3))
  go_ret
  exact ⟨by first | rfl | simp, HB.out⟩
set_option maxHeartbeats 8000000 in
set_option maxRecDepth 100000 in
theorem exSame_p (k : Nat) (A0 : Option Addr) (c0 : Nat) (x0 : List (List Int)) (A1 : Option Addr) (c1 : Nat) (x1 : List S71) (A2 : Option Addr) (c2 : Nat) (x2 : List S71) (r q p : Int) (w : World) (hr0 : Kd.C (Kd.slice 3 (Kd.int .i64)) w A0 x0.length x0) (hc0 : x0.length ≤ c0) (hr1 : Kd.C k71 w A1 x1.length x1) (hc1 : x1.length ≤ c1) (hr2 : Kd.C k71 w A2 x2.length x2) (hc2 : x2.length ≤ c2) (f1 : laws_szIntSS.f k x0 1048576 = some r) (f2 : laws_szEventS.f x1 r = some q) (f3 : laws_szEventS.f x2 q = some p) (b1 : decide (r < 0) = false) (b2 : decide (q < 0) = false) (b3 : decide (p < 0) = true) :
    Calls Try.prog 10 #[.slice A0 x0.length c0, .slice A1 x1.length c1, .slice A2 x2.length c2] w fun e w' => e = .returned (.bool true) ∧ Below w.heap.size w w' := by
  have HR0 := Aside0.mk hr0
  have HC0 := Aside0.mk hc0
  clear hr0 hc0
  have HR1 := Aside0.mk hr1
  have HC1 := Aside0.mk hc1
  clear hr1 hc1
  have HR2 := Aside0.mk hr2
  have HC2 := Aside0.mk hc2
  clear hr2 hc2
  have Ff1 := Aside0.mk f1
  clear f1
  have Ff2 := Aside0.mk f2
  clear f2
  have Ff3 := Aside0.mk f3
  clear f3
  have HB := Aside0.mk (Below.refl w.heap.size w)
  have hs := Step.mk 1
  go_enter Try.func10, Try.ntmps10
  go_wp2_with (first | (go_at_call 22; (have _ck : Step 1 := hs); (try simp only [i64_w, i32_w]); (with_reducible refine (laws_szIntSS.calls k _ _ _ _ _ _ (Kd.C_below HR0.out HB.out) HC0.out Ff1.out).mono ?_); rintro e w1_ ⟨rfl, hd_⟩; have hb_ := Drawn0.below hd_; clear hd_; have Z1 := Aside0.mk (show w.heap.size ≤ w1_.heap.size from hb_.size); have n0_ := Aside0.mk (below_step HB.out hb_); clear HB hb_; have HB := n0_; clear n0_; clear hs _ck; have hs := Step.mk 2) | (go_at_call 23; (have _ck : Step 2 := hs); (try simp only [i64_w, i32_w]); (with_reducible refine (laws_szEventS.calls _ _ _ _ _ _ (Kd.C_below HR1.out HB.out) HC1.out Ff2.out).mono ?_); rintro e w2_ ⟨rfl, hd_⟩; have hb_ := Drawn0.below hd_; clear hd_; have Z2 := Aside0.mk (show w1_.heap.size ≤ w2_.heap.size from hb_.size); have n0_ := Aside0.mk (below_step HB.out hb_); clear HB hb_; have HB := n0_; clear n0_; clear hs _ck; have hs := Step.mk 3) | (go_at_call 23; (have _ck : Step 3 := hs); (try simp only [i64_w, i32_w]); (with_reducible refine (laws_szEventS.calls _ _ _ _ _ _ (Kd.C_below HR2.out HB.out) HC2.out Ff3.out).mono ?_); rintro e w3_ ⟨rfl, hd_⟩; have hb_ := Drawn0.below hd_; clear hd_; have Z3 := Aside0.mk (show w2_.heap.size ≤ w3_.heap.size from hb_.size); have n0_ := Aside0.mk (below_step HB.out hb_); clear HB hb_; have HB := n0_; clear n0_; clear hs _ck; have hs := Step.mk 4))
  go_ret
  exact ⟨by first | rfl | simp, HB.out⟩
end Go.Proofs.Ythljlnkanllpnaa.P
