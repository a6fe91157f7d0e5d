/- Objects of the exact laws over terms with time; what ClockSteps makes in either case. No condition. -/
import Derived.Test.YtnkgcjdlfenepaaP0
import Derived.Test.YtnkgcjdlfenepaaDSteps
import Derived.Test.YtnkgcjdlfenepaaDMarkT
import Derived.Test.YtnkgcjdlfenepaaObj2
namespace Go.Proofs.Ytnkgcjdlfenepaa.P
open Go.RowKit Go.Proofs.YtnkgcjdlfenepaaW.PrintWords Go.Proofs.YtnkgcjdlfenepaaW.PrintLast Go.Proofs.YtnkgcjdlfenepaaW.PrintMore Go.Proofs.Ytnkgcjdlfenepaa.Obj
set_option linter.unusedVariables false
theorem obj_N {w':World} {base lo n c:Nat} {ok:Nat → Prop} {A:Option Addr} {xs:List S44} (h:Kd.N k44 44 w' base ok (.slice A n c) xs) (hlo:∀ k,ok k → lo ≤ k) (hle:lo ≤ w'.heap.size):Obj.Obj lo w'.heap.size (fun W=>xs.length ≤ c∧Kd.C k44 W A xs.length xs) w':=by
 have hr:=Kd.N_reads' h
 have hf:=Kd.N_F h
 rw [hr.1] at hf
 exact ⟨hle,Nat.le_refl _,fun w2 h2=>⟨by have:=hr.1;have:=hr.2.1;omega,hf w2 (fun k hk hlt=>h2 k (hlo k hk) hlt)⟩⟩
end Go.Proofs.Ytnkgcjdlfenepaa.P
