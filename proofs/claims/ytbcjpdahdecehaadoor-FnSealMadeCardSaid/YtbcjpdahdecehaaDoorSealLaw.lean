/- Who knows more makes more; what can be made tells nothing new; what is shut stays a secret. Plain; no condition. -/
import Derived.Test.YtbcjpdahdecehaaDoorSpMade
namespace Go.Proofs.YtbcjpdahdecehaaDoor.P
open Go.RowKit Go.Proofs.YtbcjpdahdecehaaDoorW.PrintWords Go.Proofs.YtbcjpdahdecehaaDoorW.PrintLast Go.Proofs.YtbcjpdahdecehaaDoorW.PrintMore
set_option linter.unusedVariables false
set_option linter.unusedSimpArgs false
mutual
theorem Der.mono {K K':List S25} (h:∀ y,y ∈ K → y ∈ K'):∀ {x:S25},Der K x → Der K' x
 | _,.base hx=>.base (h _ hx)
 | _,.fst hx=>.fst (Der.mono h hx)
 | _,.snd hx=>.snd (Der.mono h hx)
 | _,.open hx hk=>.open (Der.mono h hx) (Cmp.mono h hk)
theorem Cmp.mono {K K':List S25} (h:∀ y,y ∈ K → y ∈ K'):∀ {x:S25},Cmp K x → Cmp K' x
 | _,.own hx=>.own (Der.mono h hx)
 | _,.pair hp hq=>.pair (Cmp.mono h hp) (Cmp.mono h hq)
 | _,.shut hp hq=>.shut (Cmp.mono h hp) (Cmp.mono h hq)
end
theorem cmp_two {K:List S25} {a:Int} {p q:S25} (h:Cmp K ⟨a,0,[p,q]⟩):Der K ⟨a,0,[p,q]⟩ ∨ (Cmp K p∧Cmp K q):=by
 cases h with
 | own h=>exact Or.inl h
 | pair hp hq=>exact Or.inr ⟨hp,hq⟩
 | shut hp hq=>exact Or.inr ⟨hp,hq⟩
mutual
theorem der_cut {K:List S25} {m:S25} (hm:Cmp K m):∀ {x:S25},Der (K ++ [m]) x → Cmp K x
 | x,.base hx=>by
  rcases List.mem_append.1 hx with hx | hx
  ·exact .own (.base hx)
  ·rw [List.mem_singleton.1 hx]
   exact hm
 | _,.fst hx=>by
  rcases cmp_two (der_cut hm hx) with h | h
  ·exact .own (.fst h)
  ·exact h.1
 | _,.snd hx=>by
  rcases cmp_two (der_cut hm hx) with h | h
  ·exact .own (.snd h)
  ·exact h.2
 | _,.open hx hk=>by
  rcases cmp_two (der_cut hm hx) with h | h
  ·exact .own (.open h (cmp_cut hm hk))
  ·exact h.2
theorem cmp_cut {K:List S25} {m:S25} (hm:Cmp K m):∀ {x:S25},Cmp (K ++ [m]) x → Cmp K x
 | _,.own hx=>der_cut hm hx
 | _,.pair hp hq=>.pair (cmp_cut hm hp) (cmp_cut hm hq)
 | _,.shut hp hq=>.shut (cmp_cut hm hp) (cmp_cut hm hq)
end
def nm (n:Int):S25:=⟨0,n,[]⟩
theorem W25.nm (n:Int):W25 (nm n):=.mk _ _ _ (by simp) (by simp)
def Clean (x:S25):Prop:=∀ z,z ∈ x.subs → z ≠ nm 8∧z ≠ nm 9
theorem Clean.of {a b:Int} {l:List S25} (h:Clean ⟨a,b,l⟩) {y:S25} (hy:y ∈ l):Clean y:=fun z hz=>h z (by
 rw [S25.subs]
 exact List.mem_cons_of_mem _ (subsL_mem.2 ⟨y,hy,hz⟩))
theorem implMade_eq {l:List S25} (hW:∀ y,y ∈ l → W25 y) {m:S25} (hm:W25 m):impl_SealMade.f l m.f0 m.f1 m.f2 = some (madeIs l m):=by
 obtain ⟨a,b,c⟩:=m
 unfold impl_SealMade.f
 exact if_pos ⟨hW,hm⟩
theorem madeIs_iff {l:List S25} {m:S25}:madeIs l m = true ↔ knownOk l = true∧sealOk m = true∧Cmp l m:=by
 unfold madeIs
 rw [Bool.and_eq_true,Bool.and_eq_true]
 exact and_congr Iff.rfl (and_congr Iff.rfl (@decide_eq_true_iff _ (Classical.propDecidable _)))
theorem madeIs_same {l l':List S25} {m:S25} (hk:knownOk l = knownOk l') (h:Cmp l m ↔ Cmp l' m):madeIs l m = madeIs l' m:=by
 rw [Bool.eq_iff_iff,madeIs_iff,madeIs_iff,hk,h]
theorem knownOk_iff {l:List S25}:knownOk l = true ↔ l.length ≤ 6∧∀ y,y ∈ l → sealOk y = true:=by
 unfold knownOk
 rw [Bool.and_eq_true,List.all_eq_true]
 exact and_congr decide_eq_true_iff Iff.rfl
theorem knownOk_add {l:List S25} {m:S25} (h:knownOk l = true) (hl:l.length < 6) (hm:sealOk m = true):knownOk (l ++ [m]) = true:=by
 rw [knownOk_iff] at h ⊢
 refine ⟨by simp;omega,fun y hy=>?_⟩
 rcases List.mem_append.1 hy with hy | hy
 ·exact h.2 y hy
 ·rw [List.mem_singleton.1 hy]
  exact hm
theorem W25_add {l:List S25} {m:S25} (h:∀ y,y ∈ l → W25 y) (hm:W25 m):∀ y,y ∈ l ++ [m] → W25 y:=fun y hy=>by
 rcases List.mem_append.1 hy with hy | hy
 ·exact h y hy
 ·rw [List.mem_singleton.1 hy]
  exact hm
theorem sealOk_nm {n:Int} (h0:0 ≤ n) (h1:n ≤ 9):sealOk (nm n) = true:=by
 simp [nm,sealOk,S25.ok,okL,okHead,S25.nodes,nodesL,h0,h1]
end Go.Proofs.YtbcjpdahdecehaaDoor.P
