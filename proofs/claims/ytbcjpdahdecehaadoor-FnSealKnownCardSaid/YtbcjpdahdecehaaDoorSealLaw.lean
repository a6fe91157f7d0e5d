/- Who knows more makes more; what can be made tells nothing new; what is shut stays a secret. Plain; no condition. -/
import Derived.Test.YtbcjpdahdecehaaDoorHMade
import Derived.Test.YtbcjpdahdecehaaDoorSpMade
namespace Go.Proofs.YtbcjpdahdecehaaDoor.P
open Go.RowKit Go.Proofs.YtbcjpdahdecehaaDoorW.PrintWords Go.Proofs.YtbcjpdahdecehaaDoorW.PrintLast Go.Proofs.YtbcjpdahdecehaaDoorW.PrintMore
set_option linter.unusedVariables false
set_option linter.unusedSimpArgs false
mutual
theorem Der.mono {K K':List S25} (h:∀ y,y ∈ K → y ∈ K'):∀ {x:S25},Der K x → Der K' x
 | _,.base hx=>.base (h _ hx)
 | _,.fst hx=>.fst (Der.mono h hx)
 | _,.snd hx=>.snd (Der.mono h hx)
 | _,.open hx hk=>.open (Der.mono h hx) (Cmp.mono h hk)
theorem Cmp.mono {K K':List S25} (h:∀ y,y ∈ K → y ∈ K'):∀ {x:S25},Cmp K x → Cmp K' x
 | _,.own hx=>.own (Der.mono h hx)
 | _,.pair hp hq=>.pair (Cmp.mono h hp) (Cmp.mono h hq)
 | _,.shut hp hq=>.shut (Cmp.mono h hp) (Cmp.mono h hq)
end
def nm (n:Int):S25:=⟨0,n,[]⟩
theorem W25.nm (n:Int):W25 (nm n):=.mk _ _ _ (by simp) (by simp)
def Clean (x:S25):Prop:=∀ z,z ∈ x.subs → z ≠ nm 8∧z ≠ nm 9
theorem Clean.of {a b:Int} {l:List S25} (h:Clean ⟨a,b,l⟩) {y:S25} (hy:y ∈ l):Clean y:=fun z hz=>h z (by
 rw [S25.subs]
 exact List.mem_cons_of_mem _ (subsL_mem.2 ⟨y,hy,hz⟩))
theorem implMade_eq {l:List S25} (hW:∀ y,y ∈ l → W25 y) {m:S25} (hm:W25 m):impl_SealMade.f l m.f0 m.f1 m.f2 = some (madeIs l m):=by
 obtain ⟨a,b,c⟩:=m
 unfold impl_SealMade.f
 exact if_pos ⟨hW,hm⟩
theorem madeIs_iff {l:List S25} {m:S25}:madeIs l m = true ↔ knownOk l = true∧sealOk m = true∧Cmp l m:=by
 unfold madeIs
 rw [Bool.and_eq_true,Bool.and_eq_true]
 exact and_congr Iff.rfl (and_congr Iff.rfl (@decide_eq_true_iff _ (Classical.propDecidable _)))
theorem knownOk_iff {l:List S25}:knownOk l = true ↔ l.length ≤ 6∧∀ y,y ∈ l → sealOk y = true:=by
 unfold knownOk
 rw [Bool.and_eq_true,List.all_eq_true]
 exact and_congr decide_eq_true_iff Iff.rfl
end Go.Proofs.YtbcjpdahdecehaaDoor.P
