/- Passing one unit and many, in the program and in the reference; that a list of steps equals itself. No condition. -/
import Derived.Test.YtnkgcjdlfenepaaP0
import Derived.Test.YtnkgcjdlfenepaaP3
import Derived.Test.YtnkgcjdlfenepaaP4
import Derived.Test.YtnkgcjdlfenepaaHPass
import Derived.Test.YtnkgcjdlfenepaaClkSp
namespace Go.Proofs.Ytnkgcjdlfenepaa.P
open Go.RowKit Go.Proofs.YtnkgcjdlfenepaaW.PrintWords Go.Proofs.YtnkgcjdlfenepaaW.PrintLast Go.Proofs.YtnkgcjdlfenepaaW.PrintMore Go.Proofs.Ytnkgcjdlfenepaa.Any
set_option linter.unusedVariables false
set_option linter.unusedSimpArgs false
def quad (r:S29 × Bool):Int × Int × List S29 × Bool:=(r.1.f0,r.1.f1,r.1.f2,r.2)
def passOf (x:S29):S29 × Bool:=if clockOk x = true∧x.ps.2 = true then (x.ps.1,true) else (⟨0,0,[]⟩,false)
theorem implPass_ev {x:S29} (h:W29 x):Ev (fun k=>impl_ClockPass.f k x.f0 x.f1 x.f2) (quad (passOf x)):=by
 cases hc:clockOk x with
 | false =>
  refine Ev.cb (okImpl_ev h) (f:=fun _=>some (0,0,[],false)) (fun k hk=>?_) (Ev.to (Ev.now _) (by simp [passOf,hc,quad]))
  simp only [impl_ClockPass.f]
  rw [hk,hc,Option.bind_some,if_neg (by decide)]
 | true =>
  obtain ⟨ht,hn⟩:=clockOk_t h hc
  refine Ev.cb (okImpl_ev h) (f:=fun k=>(impl_pass.f k x.f0 x.f1 x.f2).bind fun bt=>if bt.2.2.2 = true then some (bt.1,bt.2.1,bt.2.2.1,true) else some (0,0,[],false)) (fun k hk=>?_) (Ev.cb (pass_ev ht hn) (f:=fun _=>some (quad (passOf x))) (fun k hk=>?_) (Ev.now _))
  ·simp only [impl_ClockPass.f]
   rw [hk,hc,Option.bind_some,if_pos (by trivial)]
  ·rw [hk,Option.bind_some,passOf]
   cases hp:x.ps.2 with
   | true=>rw [if_pos (by trivial),if_pos ⟨hc,rfl⟩];rfl
   | false=>rw [if_neg (by decide),if_neg (by simp)];rfl
theorem mnClock_ev {x:S29} (h:W29 x):Ev (fun k=>laws_mnClock.f k x.f0 x.f1 x.f2 x.f0 x.f1 x.f2) true:=by
 induction h with
 | mk a b l hl hx ih =>
  have loop:∀ (d i:Nat),i + d = l.length → Ev (fun k=>laws_mnClock.l0 k i a b l a b l) true:=by
   intro d
   induction d with
   | zero =>
    intro i hi
    refine Ev.step (fun k=>?_) (Ev.now true)
    simp only [laws_mnClock.l0]
    rw [if_neg (by omega)]
   | succ d ihd =>
    intro i hi
    have hil:i < l.length:=by omega
    refine Ev.sb (ih l[i] (List.getElem_mem hil)) (fun k hk=>?_) (ihd (i + 1) (by omega))
    simp only [laws_mnClock.l0]
    rw [if_pos (by omega),if_pos (by omega),if_pos (by omega),rd29_nat _ _ hil,hk,Option.bind_some,if_pos (by trivial),wrap_succ hil (by omega)]
  refine Ev.step (f:=fun k=>laws_mnClock.j0 k false a b l a b l) (fun k=>?_) (Ev.step (fun k=>?_) (loop l.length 0 (by omega)))
  ·simp only [laws_mnClock.f]
   rw [if_pos (by trivial),if_pos (by trivial),show ((l.length:Int) != (l.length:Int)) = false by simp]
  ·simp only [laws_mnClock.j0]
   rw [if_neg (by decide)]
   rfl
theorem mnTicks_ev {l:List S44} (hl:l.length ≤ 65536) (hw:∀ t,t ∈ l → W29 t.f1):Ev (fun k=>laws_mnTicks.f k l l) true:=by
 have loop:∀ (d i:Nat),i + d = l.length → Ev (fun k=>laws_mnTicks.l0 k l l i) true:=by
  intro d
  induction d with
  | zero =>
   intro i hi
   refine Ev.step (fun k=>?_) (Ev.now true)
   simp only [laws_mnTicks.l0]
   rw [if_neg (by omega)]
  | succ d ihd =>
   intro i hi
   have hil:i < l.length:=by omega
   refine Ev.sb (mnClock_ev (hw l[i] (List.getElem_mem hil))) (fun k hk=>?_) (ihd (i + 1) (by omega))
   simp only [laws_mnTicks.l0]
   rw [if_pos (by omega),if_pos (by omega),if_pos (by omega),rd44_nat _ _ hil,if_pos (by trivial),hk,Option.bind_some,if_pos (by trivial),wrap_succ hil (by omega)]
 obtain ⟨K,h⟩:=loop l.length 0 (by omega)
 refine ⟨K,fun n hn=>?_⟩
 show laws_mnTicks.f n l l = _
 unfold laws_mnTicks.f
 rw [if_pos rfl]
 exact h n hn
end Go.Proofs.Ytnkgcjdlfenepaa.P
