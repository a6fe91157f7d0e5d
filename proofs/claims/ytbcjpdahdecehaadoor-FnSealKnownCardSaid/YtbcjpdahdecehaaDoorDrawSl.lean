/- What is drawn for messages. Plain; no condition. -/
import Derived.Test.YtbcjpdahdecehaaDoorP0
import Derived.Test.YtbcjpdahdecehaaDoorP1
import Derived.Test.YtbcjpdahdecehaaDoorPick
namespace Go.Proofs.YtbcjpdahdecehaaDoor.P
open Go.RowKit Go.Proofs.YtbcjpdahdecehaaDoorW.PrintWords Go.Proofs.YtbcjpdahdecehaaDoorW.PrintLast
set_option linter.unusedVariables false
set_option linter.unusedSimpArgs false
theorem u8_wf {x:Int} (h:(Lit.int .u8 x).wf = true):0 ≤ x∧x < 256:=by
 simp [Lit.wf] at h
 have h1:IntKind.u8.min = 0:=by decide
 have h2:IntKind.u8.max = 255:=by decide
 omega
theorem open_ev {l:List Int} (hb:∀ x,x ∈ l → (Lit.int .u8 x).wf = true):∃ s,Src s∧spec_l6Open.f l = some (s,0):=by
 by_cases h:(l.length:Int) > 2000
 ·refine ⟨l.take 2000,⟨fun x hx=>u8_wf (hb x (List.mem_of_mem_take hx)),by rw [List.length_take];omega⟩,?_⟩
  simp only [spec_l6Open.f]
  rw [if_pos h,if_pos (by omega)]
 ·refine ⟨l,⟨fun x hx=>u8_wf (hb x hx),by omega⟩,?_⟩
  simp only [spec_l6Open.f]
  rw [if_neg h]
theorem W25.two {a b:Int} {x y:S25} (hx:W25 x) (hy:W25 y):W25 ⟨a,b,[⟨x.f0,x.f1,x.f2⟩,⟨y.f0,y.f1,y.f2⟩]⟩:=.mk _ _ _ (by simp) (by
 rw [eta25,eta25]
 simpa using ⟨hx,hy⟩)
set_option linter.unusedSectionVars false
section
variable {s:List Int} (hs:Src s)
include hs
end
end Go.Proofs.YtbcjpdahdecehaaDoor.P
