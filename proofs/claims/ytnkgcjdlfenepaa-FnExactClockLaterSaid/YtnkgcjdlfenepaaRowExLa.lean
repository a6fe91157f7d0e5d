/- For every term with time, also for what is none, and every number of ticks, the program's ClockLater returns what the reference's returns, leaves its argument as it was, and returns memory that it shares with nothing. No condition. -/
import Derived.Test.YtnkgcjdlfenepaaRows
import Derived.Test.YtnkgcjdlfenepaaHead
import Derived.Test.YtnkgcjdlfenepaaOpen
import Derived.Test.YtnkgcjdlfenepaaExLaLaw
import Derived.WalkKit
import Derived.ProofKit
import Derived.OpenShut
import Derived.ShutString
import Derived.ChangeOld
import Derived.Below
import Derived.SizedLaws
namespace Go.Proofs.Ytnkgcjdlfenepaa.fnExactClockLater
open Go.ChangeShapes Go.WideShapes Go.ChangeAt Go.RowKit
open Go.ChangeMaps (open_string shut_string)
open Go.Proofs.Ytnkgcjdlfenepaa.Open
set_option linter.unusedVariables false
theorem own:ownKnob Try.prog.godebug = none:=by kernel_rfl
theorem laidOut:laidOutB Try.prog = true:=by kernel_rfl
set_option maxRecDepth 100000 in
theorem lifted (os:Os) (started:os.Started) (H:Type) (enc:TypeId × Value → H) :
  ReturnsInHanded {} Try.checked os 11 .any (Rows.fnExactClockLaterSpec.pre6 enc Try.prog Try.f11 Rows.fnExactClockLaterRow.domain false) (Rows.fnExactClockLaterSpec.post enc Try.prog Try.f11 false true false false):=by
 refine returnsInHanded_of_change_sized (C:=Try.checked) own started (by kernel_rfl) Try.func11
  (ChangeSpec.witness6 (enc:=enc) (C:=Try.checked) false ⟨#[],#[.agg #[.int .i64 0,.int .i64 0,.slice none 0 0],.int .i64 0],[]⟩ 8 (by kernel_rfl) (by kernel_rfl) (by kernel_rfl) (by kernel_rfl)) ?_
 intro W base args ds gs before hval0 hW hcnd hsz0 _
 have hval:∀ (j:Nat) t v,Try.f11.params[j]? = some t → args[j]? = some v → Value.okWide Try.prog W .any base t v:=hval0
 have hW':=hW
 obtain ⟨p,q,hA0,hV,rfl,hfz,hnd⟩:=hW
 have hA:DataW.TrodAll enc Try.prog W 0 (fun _=>true) true Try.f11.params.toList args.toList ds p:=hA0
 rw [Try.params11] at hA hval
 obtain ⟨v0,vs0,d0,ds0,p0,q0,hargs,rfl,rfl,h0,r0⟩:=trodAll_cons hA
 obtain ⟨v1,vs1,d1,ds1,p1,q1,rfl,rfl,rfl,h1,r1⟩:=trodAll_cons r0
 obtain ⟨rfl,rfl,rfl⟩:=trodAll_nil r1
 obtain rfl:args = #[v0,v1]:=by cases args;simp_all
 obtain ⟨rfl,rfl⟩:=trodVars_none hV
 have k0:=h0
 have lt0:∀ x ∈ p0,x.block < W.heap.size:=by obtain ⟨m,hm⟩:=k0;exact DataW.trod_lt m _ _ _ hm
 obtain ⟨cs0,x0,rfl,hk0,hg0⟩:=open_agg Try.underlying24 (fun m=>Go.Proofs.Ytnkgcjdlfenepaa.P.opens24 m) (hval 0 24 v0 rfl rfl) h0
 have k1:=h1
 have lt1:∀ x ∈ p1,x.block < W.heap.size:=by obtain ⟨m,hm⟩:=k1;exact DataW.trod_lt m _ _ _ hm
 obtain ⟨x1,rfl,rfl,rfl,hg1⟩:=open_int Try.underlying3 (hval 1 3 v1 rfl rfl) h1
 clear hA0 hval0 hsz0
 refine (Go.Proofs.Ytnkgcjdlfenepaa.P.exLa_walk cs0 x0 x1 W hk0 hg0 hg1).mono fun e W' ⟨he,bel⟩=>?_
 subst he
 exact ⟨_,rfl,_,_,_,[],_,[],hW',trodAll_mk1 (shut_bool Try.underlying4 _),(trodAll_cons_mk (Below.trod laidOut (by kernel_rfl) (of_decide_eq_true (by kernel_rfl)) k0 bel lt0) (trodAll_cons_mk (Below.trod laidOut (by kernel_rfl) (of_decide_eq_true (by kernel_rfl)) k1 bel lt1) trodAll_mk0)),rfl,bel.frame _,fun h=>by cases h⟩
theorem closed:joinedFacts Try.prog 11 Try.f11 Rows.fnExactClockLaterSpec Rows.fnExactClockLaterRow = true:=by
 unfold joinedFacts
 rw [Go.Proofs.Ytnkgcjdlfenepaa.Head.mayEnter,Go.Proofs.Ytnkgcjdlfenepaa.Head.liftsFinal,Go.Proofs.Ytnkgcjdlfenepaa.Head.make]
 kernel_rfl
theorem over:Rows.fnExactClockLaterRow.holds Try.pinned (OpenSpec.ofChange Rows.fnExactClockLaterSpec) :=
 OpenClaim.holds_of_wide 11 Try.f11 rfl rfl rfl rfl rfl rfl rfl ⟨rfl,rfl,rfl,rfl,rfl⟩ rfl rfl rfl rfl rfl (by kernel_rfl) Try.func11 closed
  (of_decide_eq_true (by kernel_rfl)) (by unfold Func.isWrapper;first | (rw [if_pos (by decide +kernel)];kernel_rfl) | (rw [if_neg (by decide +kernel)];exact ⟨rfl,rfl⟩))
  (fun os started H enc _=>lifted os started H enc)
theorem proved:Rows.FnExactClockLaterSaid:=over
#print axioms proved
end Go.Proofs.Ytnkgcjdlfenepaa.fnExactClockLater
namespace Go.Proofs.Ytnkgcjdlfenepaa
theorem fnExactClockLater_holds:Rows.FnExactClockLaterSaid:=fnExactClockLater.proved
end Go.Proofs.Ytnkgcjdlfenepaa
