/- ClockSteps, ClockUrgent and the like of the program, in plain Lean. No condition. -/
import Derived.Test.YtnkgcjdlfenepaaP0
import Derived.Test.YtnkgcjdlfenepaaP1
import Derived.Test.YtnkgcjdlfenepaaP2
import Derived.Test.YtnkgcjdlfenepaaP3
import Derived.Test.YtnkgcjdlfenepaaHShape
import Derived.Test.YtnkgcjdlfenepaaClkEv
namespace Go.Proofs.Ytnkgcjdlfenepaa.P
open Go.RowKit Go.Proofs.YtnkgcjdlfenepaaW.PrintWords Go.Proofs.YtnkgcjdlfenepaaW.PrintLast Go.Proofs.YtnkgcjdlfenepaaW.PrintMore Go.Proofs.Ytnkgcjdlfenepaa.Any
set_option linter.unusedVariables false
set_option linter.unusedSimpArgs false
theorem okImpl_ev {x:S29} (h:W29 x):Ev (fun k=>impl_ClockOk.f k x.f0 x.f1 x.f2) (clockOk x):=by
 refine Ev.cb (implNodes_ev h 16 (by omega) (by omega)) (fun k hk=>by simp only [impl_ClockOk.f,hk,Option.bind_some]) (f:=fun k=>if min (x.nodes:Int) (16 + 1) ≤ 16 then ((impl_clockShape.f k x.f0 x.f1 x.f2).bind fun t=>some t) else some false) ?_
 by_cases hn:x.nodes ≤ 16
 ·refine Ev.cb (shape_ev h) (fun k hk=>?_) (Ev.to (Ev.now x.ok) (by simp [clockOk,hn]))
  simp only [hk,Option.bind_some]
  rw [if_pos (by omega)]
 ·refine Ev.cb (Ev.now ()) (fun k hk=>?_) (Ev.to (Ev.now false) (by simp [clockOk,hn]))
  rw [if_neg (by omega)]
theorem clockOk_t {x:S29} (h:W29 x) (hc:clockOk x = true):OkT x∧x.nodes ≤ 16:=by
 unfold clockOk at hc
 rw [Bool.and_eq_true,decide_eq_true_eq] at hc
 exact ⟨okT_of h hc.1,hc.2⟩
theorem W29.par {a b:Int} {x y:S29} (hx:W29 x) (hy:W29 y):W29 ⟨a,b,[x,y]⟩:=.mk _ _ _ (by simp) (by simpa using ⟨hx,hy⟩)
theorem tk_W {x:S29} (h:OkT x):∀ t,t ∈ x.tk → W29 t.f1:=by
 induction h with
 | nil=>rw [tk_nil];simp
 | act b p h0 h1 hp ih=>rw [tk_act];simpa using hp.w
 | wait b p h0 h1 hp ih=>rw [tk_wait];simp
 | sum p q hp hq i1 i2 =>
  rw [tk_sum]
  intro t ht
  rcases List.mem_append.1 ht with h | h
  ·exact i1 t h
  ·exact i2 t h
 | par p q hp hq i1 i2 =>
  rw [tk_par]
  intro t ht
  unfold tkPar at ht
  rcases List.mem_append.1 ht with h | h
  ·rcases List.mem_append.1 h with h | h
   ·obtain ⟨x,hx,rfl⟩:=List.mem_map.1 h
    exact (i1 x hx).par hq.w
   ·obtain ⟨x,hx,rfl⟩:=List.mem_map.1 h
    exact hp.w.par (i2 x hx)
  ·simp only [tkMeet,List.mem_flatMap] at h
   obtain ⟨x,hx,y,hy,h⟩:=h
   split at h
   ·rw [List.mem_singleton] at h
    rw [h]
    exact (i1 x hx).par (i2 y hy)
   ·cases h
theorem eta44 (x:S44):(⟨x.f0,x.f1⟩:S44) = x:=rfl
theorem steps_l0 {l:List S44} (hl:l.length ≤ 65536) (hw:∀ t,t ∈ l → W29 t.f1):∀ (d i:Nat),i + d = l.length → Ev (fun k=>impl_ClockSteps.l0 k l l.length i) (l,true):=by
 intro d
 induction d with
 | zero =>
  intro i hi
  refine Ev.step (fun k=>?_) (Ev.now _)
  simp only [impl_ClockSteps.l0]
  rw [if_neg (by omega)]
 | succ d ihd =>
  intro i hi
  have hil:i < l.length:=by omega
  refine Ev.sb (copy_ev (hw l[i] (List.getElem_mem hil))) (fun k hk=>?_) (ihd (i + 1) (by omega))
  simp only [impl_ClockSteps.l0]
  rw [if_pos (by omega),if_pos (by omega),if_pos (by omega),rd44_nat _ _ hil,hk,Option.bind_some,wrap_succ hil (by omega),eta29,eta44,Int.toNat_natCast,List.set_getElem_self]
theorem steps_ev {x:S29} (h:W29 x):Ev (fun k=>impl_ClockSteps.f k x.f0 x.f1 x.f2) (if clockOk x = true then (x.tk,true) else ([],false)):=by
 cases hc:clockOk x with
 | false =>
  refine Ev.cb (okImpl_ev h) (f:=fun _=>some ([],false)) (fun k hk=>?_) (Ev.to (Ev.now _) (by simp))
  simp only [impl_ClockSteps.f]
  rw [hk,hc,Option.bind_some,if_neg (by simp)]
 | true =>
  obtain ⟨ht,hn⟩:=clockOk_t h hc
  have hs:=tk_small ht hn
  refine Ev.cb (okImpl_ev h) (f:=fun k=>(impl_ticksOf.f k x.f0 x.f1 x.f2).bind fun t=>impl_ClockSteps.l0 k t t.length 0) (fun k hk=>?_) (Ev.cb (ticks_ev ht hn) (fun k hk=>?_) (Ev.to (steps_l0 (by omega) (tk_W ht) x.tk.length 0 (by omega)) (by simp)))
  ·simp only [impl_ClockSteps.f]
   rw [hk,hc,Option.bind_some,if_pos (by trivial)]
  ·rw [hk,Option.bind_some]
   rfl
end Go.Proofs.Ytnkgcjdlfenepaa.P
