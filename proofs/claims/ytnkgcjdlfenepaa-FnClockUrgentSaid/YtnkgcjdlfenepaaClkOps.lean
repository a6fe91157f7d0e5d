/- ClockSteps, ClockUrgent and the like of the program, in plain Lean. No condition. -/
import Derived.Test.YtnkgcjdlfenepaaP0
import Derived.Test.YtnkgcjdlfenepaaP2
import Derived.Test.YtnkgcjdlfenepaaHShape
import Derived.Test.YtnkgcjdlfenepaaClkEv
namespace Go.Proofs.Ytnkgcjdlfenepaa.P
open Go.RowKit Go.Proofs.YtnkgcjdlfenepaaW.PrintWords Go.Proofs.YtnkgcjdlfenepaaW.PrintLast Go.Proofs.YtnkgcjdlfenepaaW.PrintMore Go.Proofs.Ytnkgcjdlfenepaa.Any
set_option linter.unusedVariables false
set_option linter.unusedSimpArgs false
theorem okImpl_ev {x:S29} (h:W29 x):Ev (fun k=>impl_ClockOk.f k x.f0 x.f1 x.f2) (clockOk x):=by
 refine Ev.cb (implNodes_ev h 16 (by omega) (by omega)) (fun k hk=>by simp only [impl_ClockOk.f,hk,Option.bind_some]) (f:=fun k=>if min (x.nodes:Int) (16 + 1) ≤ 16 then ((impl_clockShape.f k x.f0 x.f1 x.f2).bind fun t=>some t) else some false) ?_
 by_cases hn:x.nodes ≤ 16
 ·refine Ev.cb (shape_ev h) (fun k hk=>?_) (Ev.to (Ev.now x.ok) (by simp [clockOk,hn]))
  simp only [hk,Option.bind_some]
  rw [if_pos (by omega)]
 ·refine Ev.cb (Ev.now ()) (fun k hk=>?_) (Ev.to (Ev.now false) (by simp [clockOk,hn]))
  rw [if_neg (by omega)]
theorem clockOk_t {x:S29} (h:W29 x) (hc:clockOk x = true):OkT x∧x.nodes ≤ 16:=by
 unfold clockOk at hc
 rw [Bool.and_eq_true,decide_eq_true_eq] at hc
 exact ⟨okT_of h hc.1,hc.2⟩
theorem W29.par {a b:Int} {x y:S29} (hx:W29 x) (hy:W29 y):W29 ⟨a,b,[x,y]⟩:=.mk _ _ _ (by simp) (by simpa using ⟨hx,hy⟩)
def urg:Nat → S29 → Nat
 | 0,_=>0
 | n + 1,x=>if x.ps.2 = true then urg n x.ps.1 + 1 else 0
theorem urgent_l0:∀ (d:Nat) (n:Nat) (x:S29),n + d = 100 → OkT x → x.nodes ≤ 16 → Ev (fun k=>impl_ClockUrgent.l0 k n x.f0 x.f1 x.f2) ((n + urg d x:Nat):Int):=by
 intro d
 induction d with
 | zero =>
  intro n x hd ht hn
  refine Ev.step (fun k=>?_) (Ev.to (Ev.now (n:Int)) (by simp [urg]))
  simp only [impl_ClockUrgent.l0]
  rw [if_neg (by omega)]
 | succ d ih =>
  intro n x hd ht hn
  cases hp:x.ps.2 with
  | false =>
   refine Ev.sb (pass_ev ht hn) (f:=fun _=>some (n:Int)) (fun k hk=>?_) (Ev.to (Ev.now _) (by simp [urg,hp]))
   simp only [impl_ClockUrgent.l0]
   rw [if_pos (by omega),hk,Option.bind_some,hp,if_neg (by simp)]
  | true =>
   have ho:=ps_ok ht hp
   refine Ev.sb (pass_ev ht hn) (fun k hk=>?_) (Ev.to (ih (n + 1) x.ps.1 (by omega) ho.1 (by omega)) (by simp [urg,hp];omega))
   simp only [impl_ClockUrgent.l0]
   rw [if_pos (by omega),hk,Option.bind_some,hp,if_pos (by trivial),wrap_id (by omega) (by omega)]
   rfl
theorem urgent_ev {x:S29} (h:W29 x):Ev (fun k=>impl_ClockUrgent.f k x.f0 x.f1 x.f2) (if clockOk x = true then (urg 100 x:Int) else -1):=by
 cases hc:clockOk x with
 | false =>
  refine Ev.cb (okImpl_ev h) (f:=fun _=>some (-1)) (fun k hk=>?_) (Ev.to (Ev.now _) (by simp))
  simp only [impl_ClockUrgent.f]
  rw [hk,hc,Option.bind_some,if_neg (by simp)]
 | true =>
  obtain ⟨ht,hn⟩:=clockOk_t h hc
  refine Ev.cb (okImpl_ev h) (fun k hk=>?_) (Ev.to (urgent_l0 100 0 x (by omega) ht hn) (by simp))
  simp only [impl_ClockUrgent.f]
  rw [hk,hc,Option.bind_some,if_pos (by trivial)]
  rfl
end Go.Proofs.Ytnkgcjdlfenepaa.P
