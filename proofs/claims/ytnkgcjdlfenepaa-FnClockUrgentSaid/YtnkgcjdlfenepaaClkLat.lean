/- Passing one unit and many, in the program and in the reference; that a list of steps equals itself. No condition. -/
import Derived.Test.YtnkgcjdlfenepaaP0
import Derived.Test.YtnkgcjdlfenepaaP4
import Derived.Test.YtnkgcjdlfenepaaHPass
import Derived.Test.YtnkgcjdlfenepaaClkSp
namespace Go.Proofs.Ytnkgcjdlfenepaa.P
open Go.RowKit Go.Proofs.YtnkgcjdlfenepaaW.PrintWords Go.Proofs.YtnkgcjdlfenepaaW.PrintLast Go.Proofs.YtnkgcjdlfenepaaW.PrintMore Go.Proofs.Ytnkgcjdlfenepaa.Any
set_option linter.unusedVariables false
set_option linter.unusedSimpArgs false
def lat:Nat → S29 → S29 × Bool
 | 0,x=>(x,true)
 | n + 1,x=>if x.ps.2 = true then lat n x.ps.1 else (⟨0,0,[]⟩,false)
theorem urg_lat:∀ (n:Nat) (x:S29),(lat (urg n x) x).2 = true∧(urg n x < n → (lat (urg n x + 1) x).2 = false)
 | 0,x=>by simp [urg,lat]
 | n + 1,x=>by
  rw [urg]
  by_cases hp:x.ps.2 = true
  ·rw [if_pos hp,lat,if_pos hp,lat,if_pos hp]
   have:=urg_lat n x.ps.1
   exact ⟨this.1,fun h=>this.2 (by omega)⟩
  ·rw [if_neg hp]
   refine ⟨rfl,fun _=>?_⟩
   simp [lat,hp]
theorem urg_le:∀ (n:Nat) (x:S29),urg n x ≤ n
 | 0,x=>Nat.le_refl _
 | n + 1,x=>by
  rw [urg]
  split
  ·have:=urg_le n x.ps.1
   omega
  ·omega
def quad (r:S29 × Bool):Int × Int × List S29 × Bool:=(r.1.f0,r.1.f1,r.1.f2,r.2)
def laterOf (x:S29) (n:Int):S29 × Bool:=if clockOk x = true∧0 ≤ n∧n ≤ 100 then lat n.toNat x else (⟨0,0,[]⟩,false)
theorem implLater_l0:∀ (n:Nat) {x:S29},n ≤ 100 → OkT x → x.nodes ≤ 16 → Ev (fun k=>impl_ClockLater.l0 k n x.f0 x.f1 x.f2) (quad (lat n x)):=by
 intro n
 induction n with
 | zero =>
  intro x _ _ _
  refine Ev.step (f:=fun _=>some (x.f0,x.f1,x.f2,true)) (fun k=>?_) (Ev.now _)
  simp only [impl_ClockLater.l0]
  rw [if_neg (by decide)]
 | succ n ih =>
  intro x hn ht hx
  cases hp:x.ps.2 with
  | false =>
   refine Ev.sb (pass_ev ht hx) (f:=fun _=>some (0,0,[],false)) (fun k hk=>?_) (Ev.to (Ev.now _) (by simp [lat,hp,quad]))
   simp only [impl_ClockLater.l0]
   rw [if_pos (by omega),hk,Option.bind_some,hp,if_neg (by decide)]
  | true =>
   have ho:=ps_ok ht hp
   refine Ev.sb (pass_ev ht hx) (fun k hk=>?_) (Ev.to (ih (by omega) ho.1 (by omega)) (by simp [lat,hp]))
   simp only [impl_ClockLater.l0]
   rw [if_pos (by omega),hk,Option.bind_some,hp,if_pos (by trivial),wrap_id (by omega) (by omega)]
   congr 1
   omega
theorem implLater_ev {x:S29} (h:W29 x) (n:Int):Ev (fun k=>impl_ClockLater.f k x.f0 x.f1 x.f2 n) (quad (laterOf x n)):=by
 have hz:∀ m:Int,Ev (fun k=>impl_ClockLater.j0 k m true x.f0 x.f1 x.f2) (0,0,[],false):=fun m =>
  Ev.step (f:=fun _=>some (0,0,[],false)) (fun k=>by simp only [impl_ClockLater.j0];rw [if_pos (by trivial)]) (Ev.now _)
 cases hc:clockOk x with
 | false =>
  refine Ev.cb (okImpl_ev h) (fun k hk=>?_) (Ev.to (hz n) (by simp [laterOf,hc,quad]))
  simp only [impl_ClockLater.f]
  rw [hk,hc,Option.bind_some,if_neg (by decide)]
 | true =>
  obtain ⟨ht,hn⟩:=clockOk_t h hc
  by_cases h0:n < 0
  ·refine Ev.cb (okImpl_ev h) (fun k hk=>?_) (Ev.to (hz n) (by rw [laterOf,if_neg (by omega)];rfl))
   simp only [impl_ClockLater.f]
   rw [hk,hc,Option.bind_some,if_pos (by trivial),if_pos h0]
  ·by_cases h1:n > 100
   ·refine Ev.cb (okImpl_ev h) (fun k hk=>?_) (Ev.to (hz n) (by rw [laterOf,if_neg (by omega)];rfl))
    simp only [impl_ClockLater.f]
    rw [hk,hc,Option.bind_some,if_pos (by trivial),if_neg h0,decide_eq_true h1]
   ·have hl:=implLater_l0 n.toNat (by omega) ht hn
    rw [Int.toNat_of_nonneg (by omega)] at hl
    refine Ev.cb (okImpl_ev h) (f:=fun k=>impl_ClockLater.j0 k n false x.f0 x.f1 x.f2) (fun k hk=>?_) (Ev.sb (copy_ev h) (fun k hk=>?_) (Ev.to hl (by rw [laterOf,if_pos ⟨hc,by omega,by omega⟩])))
    ·simp only [impl_ClockLater.f]
     rw [hk,hc,Option.bind_some,if_pos (by trivial),if_neg h0,decide_eq_false h1]
    ·simp only [impl_ClockLater.j0]
     rw [if_neg (by decide),hk,Option.bind_some]
end Go.Proofs.Ytnkgcjdlfenepaa.P
