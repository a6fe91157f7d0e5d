/- Passing one unit and many, in the program and in the reference; that a list of steps equals itself. No condition. -/
import Derived.Test.YtnkgcjdlfenepaaP0
import Derived.Test.YtnkgcjdlfenepaaP3
import Derived.Test.YtnkgcjdlfenepaaHPass
import Derived.Test.YtnkgcjdlfenepaaClkSp
namespace Go.Proofs.Ytnkgcjdlfenepaa.P
open Go.RowKit Go.Proofs.YtnkgcjdlfenepaaW.PrintWords Go.Proofs.YtnkgcjdlfenepaaW.PrintLast Go.Proofs.YtnkgcjdlfenepaaW.PrintMore Go.Proofs.Ytnkgcjdlfenepaa.Any
set_option linter.unusedVariables false
set_option linter.unusedSimpArgs false
def lat:Nat → S29 → S29 × Bool
 | 0,x=>(x,true)
 | n + 1,x=>if x.ps.2 = true then lat n x.ps.1 else (⟨0,0,[]⟩,false)
theorem lat_ok:∀ (n:Nat) {x:S29},OkT x → x.nodes ≤ 16 → OkT (lat n x).1∧(lat n x).1.nodes ≤ 16
 | 0,x,h,hn=>⟨h,hn⟩
 | n + 1,x,h,hn=>by
  rw [lat]
  split
  ·rename_i hp
   have:=ps_ok h hp
   exact lat_ok n this.1 (by omega)
  ·exact ⟨.nil,by simp [S29.nodes,nodesL]⟩
def quad (r:S29 × Bool):Int × Int × List S29 × Bool:=(r.1.f0,r.1.f1,r.1.f2,r.2)
def laterOf (x:S29) (n:Int):S29 × Bool:=if clockOk x = true∧0 ≤ n∧n ≤ 100 then lat n.toNat x else (⟨0,0,[]⟩,false)
theorem specLater_l0 {m:Nat} (hm:m ≤ 100):∀ (d n:Nat) {x:S29},n + d = m → OkT x → x.nodes ≤ 16 → Ev (fun k=>spec_ClockLater.l0 k m n x.f0 x.f1 x.f2) (quad (lat d x)):=by
 intro d
 induction d with
 | zero =>
  intro n x hd _ _
  refine Ev.step (f:=fun _=>some (x.f0,x.f1,x.f2,true)) (fun k=>?_) (Ev.now _)
  simp only [spec_ClockLater.l0]
  rw [if_neg (by omega)]
 | succ d ih =>
  intro n x hd ht hx
  obtain ⟨r,⟨hr,hr'⟩,he⟩:=spPass_ev ht hx
  cases hp:x.ps.2 with
  | false =>
   refine Ev.sb he (f:=fun _=>some (0,0,[],false)) (fun k hk=>?_) (Ev.to (Ev.now _) (by simp [lat,hp,quad]))
   simp only [spec_ClockLater.l0]
   rw [if_pos (by omega),hk,Option.bind_some,if_neg (by rw [hr,hp];decide)]
  | true =>
   have ho:=ps_ok ht hp
   have hr2:=hr' hp
   subst hr2
   refine Ev.sb he (fun k hk=>?_) (Ev.to (ih (n + 1) (by omega) ho.1 (by omega)) (by simp [lat,hp]))
   simp only [spec_ClockLater.l0]
   rw [if_pos (by omega),hk,Option.bind_some,if_pos (by trivial),wrap_id (by omega) (by omega)]
   rfl
theorem specLater_ev {x:S29} (h:W29 x) (n:Int):Ev (fun k=>spec_ClockLater.f k x.f0 x.f1 x.f2 n) (quad (laterOf x n)):=by
 have hz:∀ m:Int,Ev (fun k=>spec_ClockLater.j0 k m true x.f0 x.f1 x.f2) (0,0,[],false):=fun m =>
  Ev.step (f:=fun _=>some (0,0,[],false)) (fun k=>by simp only [spec_ClockLater.j0];rw [if_pos (by trivial)]) (Ev.now _)
 cases hc:clockOk x with
 | false =>
  refine Ev.cb (specOk_ev h) (fun k hk=>?_) (Ev.to (hz n) (by simp [laterOf,hc,quad]))
  simp only [spec_ClockLater.f]
  rw [hk,hc,Option.bind_some,if_neg (by decide)]
 | true =>
  obtain ⟨ht,hn⟩:=clockOk_t h hc
  by_cases h0:0 ≤ n∧n ≤ 100
  ·have hl:=specLater_l0 (m:=n.toNat) (by omega) n.toNat 0 (by omega) ht hn
   rw [Int.toNat_of_nonneg (by omega)] at hl
   refine Ev.cb (specOk_ev h) (f:=fun k=>spec_ClockLater.j0 k n false x.f0 x.f1 x.f2) (fun k hk=>?_) (Ev.sb (spCopy_ev h) (fun k hk=>?_) (Ev.to hl (by rw [laterOf,if_pos ⟨hc,by omega,by omega⟩])))
   ·simp only [spec_ClockLater.f]
    rw [hk,hc,Option.bind_some,if_pos (by trivial),l6In_f,Option.bind_some,decide_eq_true h0.1,decide_eq_true h0.2]
    rfl
   ·simp only [spec_ClockLater.j0]
    rw [if_neg (by decide),hk,Option.bind_some]
    rfl
  ·refine Ev.cb (specOk_ev h) (fun k hk=>?_) (Ev.to (hz n) (by rw [laterOf,if_neg (fun h=>h0 h.2)];rfl))
   simp only [spec_ClockLater.f]
   rw [hk,hc,Option.bind_some,if_pos (by trivial),l6In_f,Option.bind_some,show (decide (0 ≤ n) && decide (n ≤ 100)) = false by rw [← Bool.decide_and];exact decide_eq_false h0]
   rfl
end Go.Proofs.Ytnkgcjdlfenepaa.P
