import Derived.Test.YtbcjpdahdecehaaDoorP0
import Derived.Test.YtbcjpdahdecehaaDoorP3
import Derived.Test.YtbcjpdahdecehaaDoorDrawAsk
import Derived.Test.YtbcjpdahdecehaaDoorSealLaw
namespace Go.Proofs.YtbcjpdahdecehaaDoor.Pure
open Go.RowKit Go.Proofs.YtbcjpdahdecehaaDoor.P Go.Proofs.YtbcjpdahdecehaaDoorW.PrintWords Go.Proofs.YtbcjpdahdecehaaDoorW.PrintLast
theorem drawMade_ev {l0:List Int} (hwf:∀ x,x ∈ l0 → (Lit.int .u8 x).wf = true):∃ (l:List S25) (m:S25),l.length ≤ 7∧(∀ y,y ∈ l → W25 y)∧W25 m∧Ev (fun k=>spec_DrawSealMade.f k l0) (l,m.f0,m.f1,m.f2):=by
 obtain ⟨s,hs,ho⟩:=open_ev hwf
 obtain ⟨l,m,p1,hl,hw,hm,q1,q2,h1⟩:=asked_ev hs (p:=0) (by omega) (by omega)
 refine ⟨l,m,hl,fun y hy=>(hw y hy).1,hm,Ev.cb h1 (f:=fun _=>some (l,m.f0,m.f1,m.f2)) (fun k hk=>?_) (Ev.now _)⟩
 simp only [spec_DrawSealMade.f]
 rw [ho,Option.bind_some]
 dsimp only
 rw [hk,Option.bind_some]
end Go.Proofs.YtbcjpdahdecehaaDoor.Pure
