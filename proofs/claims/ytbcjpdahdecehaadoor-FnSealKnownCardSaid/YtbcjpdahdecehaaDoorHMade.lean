/- impl.SealMade: what can be put together of what can be taken apart. No condition. -/
import Derived.Test.YtbcjpdahdecehaaDoorHApart
namespace Go.Proofs.YtbcjpdahdecehaaDoor.P
open Go.RowKit Go.Proofs.YtbcjpdahdecehaaDoorW.PrintWords Go.Proofs.YtbcjpdahdecehaaDoorW.PrintLast Go.Proofs.YtbcjpdahdecehaaDoorW.PrintMore
set_option linter.unusedVariables false
set_option linter.unusedSimpArgs false
open Classical in
noncomputable def madeIs (l:List S25) (m:S25):Bool:=knownOk l && (sealOk m && decide (Cmp l m))
open Classical in
noncomputable def impl_SealMade.f (l0:List S25) (a1_0 a1_1:Int) (l1_2:List S25):Option Bool :=
 if (∀ y,y ∈ l0 → W25 y)∧W25 ⟨a1_0,a1_1,l1_2⟩ then some (madeIs l0 ⟨a1_0,a1_1,l1_2⟩) else none
theorem knownOkT {l:List S25} (h:knownOk l = true) (hW:∀ y,y ∈ l → W25 y):∀ y,y ∈ l → OkT y:=by
 unfold knownOk at h
 rw [Bool.and_eq_true,List.all_eq_true] at h
 exact fun y hy=>(sealOk_t (hW y hy) (h.2 y hy)).1
set_option maxHeartbeats 4000000 in
set_option maxRecDepth 100000 in
theorem impl_SealMade.calls (A0:Option Addr) (c0:Nat) (l0:List S25) (a1_0 a1_1:Int) (A1_2:Option Addr) (c1_2:Nat) (l1_2:List S25) (r:Bool) (w:World) (hr0:Kd.C k25 w A0 l0.length l0) (hc0:l0.length ≤ c0) (hr1_2:Kd.C k25 w A1_2 l1_2.length l1_2) (hc1_2:l1_2.length ≤ c1_2) (h:impl_SealMade.f l0 a1_0 a1_1 l1_2 = some r) :
  Calls Tryd.prog 28 #[.slice A0 l0.length c0,.agg #[.int .i64 a1_0,.int .i64 a1_1,.slice A1_2 l1_2.length c1_2]] w fun e w'=>e = .returned (.bool r)∧Below w.heap.size w w':=by
 unfold impl_SealMade.f at h
 split at h
 case isFalse=>cases h
 rename_i hw
 obtain rfl:=Option.some.inj h
 clear h
 generalize hm:S25.mk a1_0 a1_1 l1_2 = m at *
 obtain ⟨hW,hWm⟩:=hw
 have HW:=aQ hW
 have HWm:=aQ hWm
 have HC:=aQ hr0
 have HCm:=aQ hr1_2
 have HCc:=aQ hc1_2
 have HCc0:=aQ hc0
 clear hW hWm hr0 hr1_2 hc1_2 hc0
 have HA:=fun (W:World) (hC:Kd.C k25 W A0 l0.length l0)=>aQ (apart_calls A0 c0 l0 W hC HCc0.out HW.out)
 have HO:=fun (W:World) (hC:Kd.C k25 W A1_2 m.f2.length m.f2)=>aQ (sealOk_at HWm.out A1_2 c1_2 W hC (by subst hm;exact HCc.out))
 subst hm
 cases hk:knownOk l0 with
 | false =>
  have e:madeIs l0 ⟨a1_0,a1_1,l1_2⟩ = false:=by unfold madeIs;rw [hk];rfl
  rw [e]
  clear e
  go_enter Tryd.func28,Tryd.ntmps28
  go_wp2_with (first
   | (go_at_call 54;refine (HA _ (Kd.C_alloc HC.out _)).out.mono ?_;rintro e w1 ha;obtain ⟨rfl,hb1⟩:=ha.2 hk;have HB1:=aQ (below_step (below_alloc (Below.refl _ _) _) hb1);clear ha hb1)
   | fail)
  go_ret
  exact ⟨rfl,HB1.out⟩
 | true =>
  go_enter Tryd.func28,Tryd.ntmps28
  cases ho:sealOk ⟨a1_0,a1_1,l1_2⟩ with
  | false =>
   have e:madeIs l0 ⟨a1_0,a1_1,l1_2⟩ = false:=by unfold madeIs;rw [ho,Bool.false_and,Bool.and_false]
   rw [e]
   clear e
   rw [ho] at HO
   go_wp2_with (first
    | (go_at_call 54;refine (HA _ (Kd.C_alloc HC.out _)).out.mono ?_;rintro e w1 ha;obtain ⟨b,D,rfl,hS,hM,hcl⟩:=ha.1 hk;have HS:=aQ hS;have HM:=aQ hM;have HCl:=aQ hcl;have BK:=blk_below (blk_new w (.cells #[.int .i64 a1_0,.int .i64 a1_1,.slice A1_2 l1_2.length c1_2] 25 (0,0))) hS.hB;have hb0:=(blk_cell BK 0).trans rfl;have hb1:=(blk_cell BK 1).trans rfl;have hb2:=(blk_cell BK 2).trans rfl;have HB1:=aQ (below_step (below_alloc (Below.refl _ _) _) hS.hB);clear ha hS hM hcl BK)
    | (go_at_call 14;refine (HO _ (Kd.C_below HCm.out HB1.out)).out.mono ?_;rintro e w2 ⟨rfl,hb9⟩;have HB2:=aQ (below_step HB1.out hb9);clear hb9)
    | fail)
   go_ret
   exact ⟨rfl,HB2.out⟩
  | true =>
   rw [ho] at HO
   have HT:=aQ (sealOk_t HWm.out ho)
   go_wp2_with (first
    | (go_at_call 54;refine (HA _ (Kd.C_alloc HC.out _)).out.mono ?_;rintro e w1 ha;obtain ⟨b,D,rfl,hS,hM,hcl⟩:=ha.1 hk;have HS:=aQ hS;have HM:=aQ hM;have HCl:=aQ hcl;have BK:=blk_below (blk_new w (.cells #[.int .i64 a1_0,.int .i64 a1_1,.slice A1_2 l1_2.length c1_2] 25 (0,0))) hS.hB;have hb0:=(blk_cell BK 0).trans rfl;have hb1:=(blk_cell BK 1).trans rfl;have hb2:=(blk_cell BK 2).trans rfl;have HB1:=aQ (below_step (below_alloc (Below.refl _ _) _) hS.hB);clear ha hS hM hcl)
    | (go_at_call 14;refine (HO _ (Kd.C_below HCm.out HB1.out)).out.mono ?_;rintro e w2 ⟨rfl,hb9⟩;have HB2:=aQ (below_step HB1.out hb9);have HS2:=aQ (own_below HS.out.own hb9);have BK2:=blk_below BK hb9;have he0:=(blk_cell BK2 0).trans rfl;have he1:=(blk_cell BK2 1).trans rfl;have he2:=(blk_cell BK2 2).trans rfl;clear hb9 BK BK2 hb0 hb1 hb2)
    | (go_at_call 55;refine (makes_calls (says D) HT.out.1 HT.out.2 A1_2 c1_2 _ (Kd.C_below HCm.out HB2.out) HCc.out HS2.out).mono ?_;rintro e w3 ⟨rfl,hb9⟩;have HB3:=aQ (below_step HB2.out hb9);clear hb9)
    | fail)
   go_ret
   refine ⟨?_,HB3.out⟩
   have e:madeIs l0 ⟨a1_0,a1_1,l1_2⟩ = (S25.mk a1_0 a1_1 l1_2).mkb (Sd D):=by
    unfold madeIs
    rw [hk,ho,Bool.true_and,Bool.true_and,Bool.eq_iff_iff]
    exact (@decide_eq_true_iff _ (Classical.propDecidable _)).trans (closed_der (knownOkT hk HW.out) HCl.out HM.out.sound HT.out.1).2.symm
   rw [e]
   rfl
end Go.Proofs.YtbcjpdahdecehaaDoor.P
