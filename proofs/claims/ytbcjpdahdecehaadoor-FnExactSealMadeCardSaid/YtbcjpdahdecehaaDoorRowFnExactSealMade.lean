/- For all known messages and every message, also for what is none, the program's SealMade returns what the reference's returns, and leaves its arguments as they were. No condition. -/
import Derived.Test.YtbcjpdahdecehaaDoorRows
import Derived.Test.YtbcjpdahdecehaaDoorCards
import Derived.Test.YtbcjpdahdecehaaDoorTie
import Derived.SevenTiedAt
import Derived.LaidMore
import Derived.Stop.Joined
import Derived.LaidLaws
import Derived.LaidHandle
import Derived.Test.YtbcjpdahdecehaaDoorHead
import Derived.Test.YtbcjpdahdecehaaDoorOpen
import Derived.Test.YtbcjpdahdecehaaDoorExMade
import Derived.WalkKit
import Derived.ProofKit
import Derived.OpenShut
import Derived.ShutString
import Derived.ChangeOld
import Derived.Below
import Derived.SizedLaws
namespace Go.Proofs.YtbcjpdahdecehaaDoor.fnExactSealMade
open Go.ChangeShapes Go.WideShapes Go.ChangeAt Go.RowKit
open Go.ChangeMaps (open_string shut_string)
open Go.Proofs.YtbcjpdahdecehaaDoor.Open
set_option linter.unusedVariables false
theorem own : ownKnob Tryd.prog.godebug = none := by kernel_rfl
theorem laidOut : laidOutB Tryd.prog = true := by kernel_rfl
theorem door_met (os : Os) (args : Array Value) : laidMetH Tryd.prog Rows.fnExactSealMadeRow.laid ((World.doorLaid Tryd.prog 24 os).forCall (fun _ _ => 0) ⟨#[], args, []⟩).memory :=
 laidMetH_of_parts3 (fuel := 8) (laidMet_of_run' 8 (by kernel_rfl) (by kernel_rfl)) (by kernel_rfl) (by kernel_rfl)
set_option maxRecDepth 100000 in
theorem lifted (os : Os) (started : os.Started) (H : Type) (enc : TypeId × Value → H) :
  ReturnsInHanded {} Tryd.checked os 8 .any (fun w args => (Rows.fnExactSealMadeSpec.pre enc Tryd.prog Tryd.f8 [] false w args ∧ laidMetH Tryd.prog Rows.fnExactSealMadeRow.laid w) ∧ sizedMet enc Tryd.prog Tryd.f8 (OpenSpec.ofChange Rows.fnExactSealMadeSpec) false w args) (Rows.fnExactSealMadeSpec.post enc Tryd.prog Tryd.f8 false true false false) := by
 refine returnsInHanded_of_change_and (C := Tryd.checked) (X := fun w _ => laidMetH Tryd.prog Rows.fnExactSealMadeRow.laid w) (fun _ _ _ hh h => h.of_heap hh) own started (by kernel_rfl) Tryd.func8
  (ChangeSpec.witness_shaped (enc := enc) (C := Tryd.checked) (os := os) (X := fun w _ => laidMetH Tryd.prog Rows.fnExactSealMadeRow.laid w) false (World.doorLaid Tryd.prog 24 os) #[.slice none 0 0, .agg #[.int .i64 0, .int .i64 0, .slice none 0 0]] 8 rfl (World.shaped_of_RefB (by kernel_rfl) (by kernel_rfl)) (by kernel_rfl) (by kernel_rfl) (by kernel_rfl) (door_met os _)) ?_
 intro W base args ds gs before hval0 hW hcnd hsz0 hL _
 have hval : ∀ (j : Nat) t v, Tryd.f8.params[j]? = some t → args[j]? = some v → Value.okWide Tryd.prog W .any base t v := hval0
 have hW' := hW
 obtain ⟨p, q, hA0, hV, rfl, hfz, hnd⟩ := hW
 have hA : DataW.TrodAll enc Tryd.prog W 0 (fun _ => true) true Tryd.f8.params.toList args.toList ds p := hA0
 rw [Tryd.params8] at hA hval
 obtain ⟨v0, vs0, d0, ds0, p0, q0, hargs, rfl, rfl, h0, r0⟩ := trodAll_cons hA
 obtain ⟨v1, vs1, d1, ds1, p1, q1, rfl, rfl, rfl, h1, r1⟩ := trodAll_cons r0
 obtain ⟨rfl, rfl, rfl⟩ := trodAll_nil r1
 obtain rfl : args = #[v0, v1] := by cases args; simp_all
 obtain ⟨rfl, rfl⟩ := trodVars_none hV
 have k0 := h0
 have lt0 : ∀ x ∈ p0, x.block < W.heap.size := by obtain ⟨m, hm⟩ := k0; exact DataW.trod_lt m _ _ _ hm
 obtain ⟨A0, c0, x0, rfl, hc0, hk0, hg0⟩ := open_sl Tryd.underlying31 (fun m => Go.Proofs.YtbcjpdahdecehaaDoor.P.opens31 m) (hval 0 31 v0 rfl rfl) h0
 have k1 := h1
 have lt1 : ∀ x ∈ p1, x.block < W.heap.size := by obtain ⟨m, hm⟩ := k1; exact DataW.trod_lt m _ _ _ hm
 obtain ⟨cs1, x1, rfl, hk1, hg1⟩ := open_agg Tryd.underlying33 (fun m => Go.Proofs.YtbcjpdahdecehaaDoor.P.opens33 m) (hval 1 33 v1 rfl rfl) h1
 clear hA0 hval0 hsz0
 refine (Go.Proofs.YtbcjpdahdecehaaDoor.P.exMade_walk A0 c0 x0 cs1 x1 W hc0 hk0 hg0 hk1 hg1).mono fun e W' ⟨he, bel⟩ => ?_
 subst he
 exact ⟨_, rfl, _, _, _, [], _, [], hW', trodAll_mk1 (shut_bool Tryd.underlying4 _), (trodAll_cons_mk (Below.trod laidOut (by kernel_rfl) (of_decide_eq_true (by kernel_rfl)) k0 bel lt0) (trodAll_cons_mk (Below.trod laidOut (by kernel_rfl) (of_decide_eq_true (by kernel_rfl)) k1 bel lt1) trodAll_mk0)), rfl, bel.frame _, fun h => by cases h⟩
theorem closed : joinedFacts Tryd.prog 8 Tryd.f8 Rows.fnExactSealMadeSpec Rows.fnExactSealMadeRow = true := by
 unfold joinedFacts
 rw [Go.Proofs.YtbcjpdahdecehaaDoor.Head.mayEnter, Go.Proofs.YtbcjpdahdecehaaDoor.Head.liftsFinal, Go.Proofs.YtbcjpdahdecehaaDoor.Head.make]
 kernel_rfl
theorem over : Rows.fnExactSealMadeRow.holds Tryd.pinned (OpenSpec.ofChange Rows.fnExactSealMadeSpec) :=
 OpenClaim.holds_of_wide 8 Tryd.f8 rfl rfl rfl rfl rfl rfl rfl ⟨rfl, rfl, rfl, rfl, rfl⟩ rfl rfl rfl rfl rfl (by kernel_rfl) Tryd.func8 closed
  (of_decide_eq_true (by kernel_rfl)) (by unfold Func.isWrapper; first | (rw [if_pos (by decide +kernel)]; kernel_rfl) | (rw [if_neg (by decide +kernel)]; exact ⟨rfl, rfl⟩))
  (fun os started H enc _ => lifted os started H enc)
theorem row : Rows.FnExactSealMadeSaid := over
theorem proved : Rows.FnExactSealMadeCardSaid :=
 Claim7.holds_tied_plain_at .later [] [.data, .data, .data] true (true, "7f15f156b237e8b41f03e1394a90360bc918ae3e7219502144e7dbb425dd4559") false
  row (fun _ h => by cases h) (by kernel_rfl) (fun _ h => by cases h) fnExactSealMade_row_tie rfl ⟨rfl, rfl⟩ (by kernel_rfl) rfl
  (fun f fn hf hfn => by
   obtain rfl : f = 8 := Option.some.inj ((show Tryd.prog.funcNamed "loop.example/mobilenames/laws.FnExactSealMade" = some 8 by kernel_rfl).symm.trans hf) |>.symm
   obtain rfl : fn = Tryd.f8 := (Option.some.inj (Tryd.func8.symm.trans hfn)).symm
   exact ⟨by kernel_rfl, fun j t ht => by
    rw [Tryd.params8] at ht
    have hm : t ∈ [31, 33] := by simpa using Array.mem_of_getElem? ht
    have hall : ([31, 33].all fun u => !Tryd.prog.wantsStandIn u) = true := by kernel_rfl
    exact (show Tryd.prog.wantsStandIn t = false by simpa using List.all_eq_true.1 hall t hm)⟩)
  (by kernel_rfl)
#print axioms proved
end Go.Proofs.YtbcjpdahdecehaaDoor.fnExactSealMade
namespace Go.Proofs.YtbcjpdahdecehaaDoor
theorem fnExactSealMade_holds : Rows.FnExactSealMadeCardSaid := fnExactSealMade.proved
end Go.Proofs.YtbcjpdahdecehaaDoor
