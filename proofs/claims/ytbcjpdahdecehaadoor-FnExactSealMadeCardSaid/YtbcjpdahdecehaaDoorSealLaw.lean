/- Who knows more makes more; what can be made tells nothing new; what is shut stays a secret. Plain; no condition. -/
import Derived.Test.YtbcjpdahdecehaaDoorSpMade
namespace Go.Proofs.YtbcjpdahdecehaaDoor.P
open Go.RowKit Go.Proofs.YtbcjpdahdecehaaDoorW.PrintWords Go.Proofs.YtbcjpdahdecehaaDoorW.PrintLast Go.Proofs.YtbcjpdahdecehaaDoorW.PrintMore
set_option linter.unusedVariables false
set_option linter.unusedSimpArgs false
mutual
theorem Der.mono {K K':List S25} (h:∀ y,y ∈ K → y ∈ K'):∀ {x:S25},Der K x → Der K' x
 | _,.base hx=>.base (h _ hx)
 | _,.fst hx=>.fst (Der.mono h hx)
 | _,.snd hx=>.snd (Der.mono h hx)
 | _,.open hx hk=>.open (Der.mono h hx) (Cmp.mono h hk)
theorem Cmp.mono {K K':List S25} (h:∀ y,y ∈ K → y ∈ K'):∀ {x:S25},Cmp K x → Cmp K' x
 | _,.own hx=>.own (Der.mono h hx)
 | _,.pair hp hq=>.pair (Cmp.mono h hp) (Cmp.mono h hq)
 | _,.shut hp hq=>.shut (Cmp.mono h hp) (Cmp.mono h hq)
end
theorem implMade_eq {l:List S25} (hW:∀ y,y ∈ l → W25 y) {m:S25} (hm:W25 m):impl_SealMade.f l m.f0 m.f1 m.f2 = some (madeIs l m):=by
 obtain ⟨a,b,c⟩:=m
 unfold impl_SealMade.f
 exact if_pos ⟨hW,hm⟩
end Go.Proofs.YtbcjpdahdecehaaDoor.P
