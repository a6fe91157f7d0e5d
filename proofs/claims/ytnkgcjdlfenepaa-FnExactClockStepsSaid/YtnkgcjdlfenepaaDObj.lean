/- Objects of the exact laws over terms with time; what ClockSteps makes in either case. No condition. -/
import Derived.Test.YtnkgcjdlfenepaaP0
import Derived.Test.YtnkgcjdlfenepaaP1
import Derived.Test.YtnkgcjdlfenepaaP2
import Derived.Test.YtnkgcjdlfenepaaP3
import Derived.Test.YtnkgcjdlfenepaaDSteps
import Derived.Test.YtnkgcjdlfenepaaDMarkT
import Derived.Test.YtnkgcjdlfenepaaObj2
namespace Go.Proofs.Ytnkgcjdlfenepaa.P
open Go.RowKit Go.Proofs.YtnkgcjdlfenepaaW.PrintWords Go.Proofs.YtnkgcjdlfenepaaW.PrintLast Go.Proofs.YtnkgcjdlfenepaaW.PrintMore Go.Proofs.Ytnkgcjdlfenepaa.Obj
set_option linter.unusedVariables false
theorem V_of_S {w:World} {base:Nat} {P:Nat → Prop} {A:Option Addr} {n c:Nat} {xs:List S29} (h:Kd.S q29 29 w base P (.slice A n c) xs):Kd.V k29 29 w w.heap.size (fun k_=>P k_) (.slice A n c) xs:=by
 obtain rfl:=(S29_reads h).1
 exact Kd.V_mk (S29_reads h).2.1 (Kd.F_imp (Kd.S_F h) (fun W' hc=>q29_C hc))
theorem obj_N {w':World} {base lo n c:Nat} {ok:Nat → Prop} {A:Option Addr} {xs:List S44} (h:Kd.N k44 44 w' base ok (.slice A n c) xs) (hlo:∀ k,ok k → lo ≤ k) (hle:lo ≤ w'.heap.size):Obj.Obj lo w'.heap.size (fun W=>xs.length ≤ c∧Kd.C k44 W A xs.length xs) w':=by
 have hr:=Kd.N_reads' h
 have hf:=Kd.N_F h
 rw [hr.1] at hf
 exact ⟨hle,Nat.le_refl _,fun w2 h2=>⟨by have:=hr.1;have:=hr.2.1;omega,hf w2 (fun k hk hlt=>h2 k (hlo k hk) hlt)⟩⟩
def StepsAre (k:Nat) (a b:Int) (l:List S29) (T:List S44) (ok:Bool):Prop :=
 (impl_ClockOk.f k a b l = some true∧ok = true∧impl_ticksOf.f k a b l = some T∧∀ t,t ∈ T → impl_copyClock.f k t.f1.f0 t.f1.f1 t.f1.f2 = some (t.f1.f0,t.f1.f1,t.f1.f2)) ∨ (impl_ClockSteps.f k a b l = some ([],false)∧ok = false∧T = [])
theorem ClockSteps_deepA (k:Nat) (a0_0 a0_1:Int) (P0_2_:Nat → Prop) (A0_2:Option Addr) (c0_2:Nat) (l0_2:List S29) (T:List S44) (ok:Bool) (w:World) (hs0_2:Kd.V k29 29 w w.heap.size (fun k_=>P0_2_ k_) (.slice A0_2 l0_2.length c0_2) l0_2)
  (h:StepsAre k a0_0 a0_1 l0_2 T ok) :
  Calls Try.prog 19 #[.agg #[.int .i64 a0_0,.int .i64 a0_1,.slice A0_2 l0_2.length c0_2]] w fun e w'=>∃ v0_:Value,e = .returned (.tuple #[v0_,.bool ok])∧Kd.S q44 44 w' w.heap.size (fun _=>True) v0_ T∧Below w.heap.size w w':=by
 rcases h with ⟨h1,rfl,h2,h3⟩ | ⟨h1,rfl,rfl⟩
 ·refine (ClockSteps_deep k a0_0 a0_1 P0_2_ A0_2 c0_2 l0_2 T w hs0_2 h1 h2 h3).mono ?_
  rintro e w' ⟨v,rfl,hS,hb⟩
  exact ⟨v,rfl,Kd.S_mono hS (fun _ _=>trivial),hb⟩
 ·refine (impl_ClockSteps.calls k a0_0 a0_1 P0_2_ A0_2 c0_2 l0_2 [] false w hs0_2 h1).mono ?_
  rintro e w' ⟨v,rfl,hN,hb⟩
  obtain ⟨A,c,rfl⟩:=Kd.N_slice hN
  exact ⟨_,rfl,Kd.S_mono (TickRow_done (TickRow_start hN)) (fun _ _=>trivial),hb⟩
theorem heldT (k:Nat) (A:Option Addr) (c:Nat) (T:List S44) {w:World} {base:Nat} {P:Nat → Prop} (h:Kd.S q44 44 w base P (.slice A T.length c) (mkT T 1).2) (f:laws_heldTickS.f k (mkT T 1).2 1 = some (mkT T 1).1) :
  Calls Try.prog 29 #[.slice A T.length c,.int .i64 1] w fun e w'=>e = .returned (.int .i64 (mkT T 1).1)∧Drawn0 w w':=by
 have hr:=S44_reads h
 have e:=mkT_len T 1
 rw [← e]
 exact laws_heldTickS.calls k A c _ 1 _ w hr.2.2 (by omega) f
end Go.Proofs.Ytnkgcjdlfenepaa.P
