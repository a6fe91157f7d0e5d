/- Objects of the exact laws of ClockPass and ClockLater; what these make, whatever term is given. No condition. -/
import Derived.Test.YtnkgcjdlfenepaaP2
import Derived.Test.YtnkgcjdlfenepaaP3
import Derived.Test.YtnkgcjdlfenepaaDLater
import Derived.Test.YtnkgcjdlfenepaaDHeld
namespace Go.Proofs.Ytnkgcjdlfenepaa.P
open Go.RowKit Go.Proofs.YtnkgcjdlfenepaaW.PrintWords Go.Proofs.YtnkgcjdlfenepaaW.PrintLast Go.Proofs.YtnkgcjdlfenepaaW.PrintMore Go.Proofs.Ytnkgcjdlfenepaa.Obj
set_option linter.unusedVariables false
theorem ClockTo.run {f:Nat} {w:World} {args:Array Value} {r:S29 × Bool} (h:ClockTo f w args r) :
  Calls Try.prog f args w fun e w'=>∃ v2_:Value,e = .returned (.tuple #[.agg #[.int .i64 r.1.f0,.int .i64 r.1.f1,v2_],.bool r.2])∧Kd.S q29 29 w' w.heap.size (fun _=>True) v2_ r.1.f2∧Below w.heap.size w w':=h
theorem obj_N29 {w':World} {base lo n c:Nat} {ok:Nat → Prop} {A:Option Addr} {xs:List S29} (h:Kd.N k29 29 w' base ok (.slice A n c) xs) (hlo:∀ k,ok k → lo ≤ k) (hle:lo ≤ w'.heap.size):Obj.Obj lo w'.heap.size (fun W=>xs.length ≤ c∧Kd.C k29 W A xs.length xs) w':=by
 have hr:=Kd.N_reads' h
 have hf:=Kd.N_F h
 rw [hr.1] at hf
 exact ⟨hle,Nat.le_refl _,fun w2 h2=>⟨by have:=hr.1;have:=hr.2.1;omega,hf w2 (fun k hk hlt=>h2 k (hlo k hk) hlt)⟩⟩
theorem heldC (k:Nat) (A:Option Addr) (c:Nat) (a b:Int) (l:List S29) {w:World} {base:Nat} {P:Nat → Prop} (h:Kd.S q29 29 w base P (.slice A l.length c) (mkL l 1).2) (f:laws_heldClock.f k a b (mkL l 1).2 1 = some (mkL l 1).1) :
  Calls Try.prog 35 #[.agg #[.int .i64 a,.int .i64 b,.slice A l.length c],.int .i64 1] w fun e w'=>e = .returned (.int .i64 (mkL l 1).1)∧Below w.heap.size w w':=by
 have hr:=S29_reads h
 have e:=mkL_len l 1
 rw [← e]
 exact laws_heldClock.calls k a b A c _ 1 _ w hr.2.2 (by omega) f
theorem clater_all {x:S29} (h:W29 x) (n:Int) (A:Option Addr) (c:Nat) (w:World) (hC:Kd.C k29 w A x.f2.length x.f2) (hc:x.f2.length ≤ c):ClockTo 34 w #[.agg #[.int .i64 x.f0,.int .i64 x.f1,.slice A x.f2.length c],.int .i64 n] (laterOf x n):=by
 obtain ⟨K,hK⟩:=okImpl_ev h
 have hk:=hK K (Nat.le_refl _)
 by_cases ho:clockOk x = true
 ·obtain ⟨ht,hn⟩:=clockOk_t h ho
  have hk':impl_ClockOk.f K x.f0 x.f1 x.f2 = some true:=by rw [← ho];exact hk
  unfold laterOf
  by_cases h0:n < 0
  ·rw [if_neg (by omega)]
   exact clater_neg K x.f0 x.f1 A c x.f2 n w hC hc hk' (decide_eq_true h0)
  by_cases h1:100 < n
  ·rw [if_neg (by omega)]
   exact clater_big K x.f0 x.f1 A c x.f2 n w hC hc hk' (decide_eq_false h0) (decide_eq_true h1)
  ·rw [if_pos ⟨ho,by omega,by omega⟩]
   obtain ⟨m,rfl⟩:∃ m:Nat,n = (m:Int):=⟨n.toNat,by omega⟩
   rw [Int.toNat_natCast]
   obtain ⟨K2,hK2⟩:=copy_ev h
   have hK':∀ k,K ≤ k → impl_ClockOk.f k x.f0 x.f1 x.f2 = some true:=fun k hk=>by rw [← ho];exact hK k hk
   have hy:=clater_yes (K + K2) x.f0 x.f1 A c x.f2 m w hC hc (hK' _ (by omega)) (hK2 _ (by omega)) (by omega)
    (by rw [eta29];exact ht) (by rw [eta29];exact hn)
   rw [eta29] at hy
   exact hy
 ·have hk':impl_ClockOk.f K x.f0 x.f1 x.f2 = some false:=by
   rw [← Bool.eq_false_iff.mpr ho]
   exact hk
  unfold laterOf
  rw [if_neg (fun h=>ho h.1)]
  exact clater_no K x.f0 x.f1 A c x.f2 n w hC hc hk'
end Go.Proofs.Ytnkgcjdlfenepaa.P
