/- Who knows more makes more; what can be made tells nothing new; what is shut stays a secret. Plain; no condition. -/
import Derived.Test.YtbcjpdahdecehaaDoorSpMade
namespace Go.Proofs.YtbcjpdahdecehaaDoor.P
open Go.RowKit Go.Proofs.YtbcjpdahdecehaaDoorW.PrintWords Go.Proofs.YtbcjpdahdecehaaDoorW.PrintLast Go.Proofs.YtbcjpdahdecehaaDoorW.PrintMore
set_option linter.unusedVariables false
set_option linter.unusedSimpArgs false
mutual
theorem Der.mono {K K':List S25} (h:∀ y,y ∈ K → y ∈ K'):∀ {x:S25},Der K x → Der K' x
 | _,.base hx=>.base (h _ hx)
 | _,.fst hx=>.fst (Der.mono h hx)
 | _,.snd hx=>.snd (Der.mono h hx)
 | _,.open hx hk=>.open (Der.mono h hx) (Cmp.mono h hk)
theorem Cmp.mono {K K':List S25} (h:∀ y,y ∈ K → y ∈ K'):∀ {x:S25},Cmp K x → Cmp K' x
 | _,.own hx=>.own (Der.mono h hx)
 | _,.pair hp hq=>.pair (Cmp.mono h hp) (Cmp.mono h hq)
 | _,.shut hp hq=>.shut (Cmp.mono h hp) (Cmp.mono h hq)
end
def nm (n:Int):S25:=⟨0,n,[]⟩
theorem W25.nm (n:Int):W25 (nm n):=.mk _ _ _ (by simp) (by simp)
theorem subs_nm (n:Int):(nm n).subs = [nm n]:=by simp [P.nm,S25.subs,subsL]
def Clean (x:S25):Prop:=∀ z,z ∈ x.subs → z ≠ nm 8∧z ≠ nm 9
def sh:S25:=⟨2,0,[nm 9,nm 8]⟩
theorem Clean.of {a b:Int} {l:List S25} (h:Clean ⟨a,b,l⟩) {y:S25} (hy:y ∈ l):Clean y:=fun z hz=>h z (by
 rw [S25.subs]
 exact List.mem_cons_of_mem _ (subsL_mem.2 ⟨y,hy,hz⟩))
theorem clean_sub {l:List S25} (hl:∀ y,y ∈ l → Clean y) {x:S25} (hx:x ∈ subsL l):Clean x:=fun z hz=>by
 obtain ⟨y,hy,h⟩:=subsL_mem.1 (subsL_trans hz hx)
 exact hl y hy z h
mutual
theorem der_secret {K:List S25} (hK:∀ y,y ∈ K → Clean y):∀ {x:S25},Der (K ++ [sh]) x → Der K x ∨ x = sh
 | x,.base hx=>by
  rcases List.mem_append.1 hx with hx | hx
  ·exact Or.inl (.base hx)
  ·exact Or.inr (List.mem_singleton.1 hx)
 | _,.fst hx=>by
  rcases der_secret hK hx with h | h
  ·exact Or.inl (.fst h)
  ·exact absurd h (by simp [sh])
 | _,.snd hx=>by
  rcases der_secret hK hx with h | h
  ·exact Or.inl (.snd h)
  ·exact absurd h (by simp [sh])
 | _,@Der.open _ p q hx hk=>by
  have hc:=cmp_secret hK hk
  rcases der_secret hK hx with h | h
  ·exact Or.inl (.open h (hc.1 (clean_sub hK (subsL_trans (part_subs (by simp)) (der_subs h)))))
  ·have e:p = nm 9:=by
    unfold sh at h
    injection h with h1 h2 h3
    injection h3
   exact absurd e hc.2.2
theorem cmp_secret {K:List S25} (hK:∀ y,y ∈ K → Clean y):∀ {x:S25},Cmp (K ++ [sh]) x → (Clean x → Cmp K x)∧x ≠ nm 8∧x ≠ nm 9
 | x,.own hx=>by
  rcases der_secret hK hx with h | h
  ·exact ⟨fun _=>.own h,clean_sub hK (der_subs h) x (subs_self x)⟩
  ·subst h
   refine ⟨fun hc=>absurd rfl ((hc (nm 9) ?_).2),by simp [sh,nm],by simp [sh,nm]⟩
   exact part_subs (by simp)
 | _,.pair hp hq=>⟨fun hc=>.pair ((cmp_secret hK hp).1 (hc.of (by simp))) ((cmp_secret hK hq).1 (hc.of (by simp))),by simp [nm],by simp [nm]⟩
 | _,.shut hp hq=>⟨fun hc=>.shut ((cmp_secret hK hp).1 (hc.of (by simp))) ((cmp_secret hK hq).1 (hc.of (by simp))),by simp [nm],by simp [nm]⟩
end
mutual
theorem un_false {m:S25}:∀ {x:S25},m.un x = false → ∀ z,z ∈ x.subs → z ≠ m
 | ⟨a,b,l⟩,h,z,hz=>by
  rw [S25.un,Bool.or_eq_false_iff] at h
  rw [S25.subs] at hz
  rcases List.mem_cons.1 hz with rfl | hz
  ·intro e
   have:=of_decide_eq_false h.1
   rw [e] at this
   exact this rfl
  ·exact unL_false h.2 z hz
theorem unL_false {m:S25}:∀ {l:List S25},unL m l = false → ∀ z,z ∈ subsL l → z ≠ m
 | [],_,z,hz=>by simp [subsL] at hz
 | x :: xs,h,z,hz=>by
  rw [unL,Bool.or_eq_false_iff] at h
  rw [subsL] at hz
  rcases List.mem_append.1 hz with hz | hz
  ·exact un_false h.1 z hz
  ·exact unL_false h.2 z hz
end
theorem implMade_eq {l:List S25} (hW:∀ y,y ∈ l → W25 y) {m:S25} (hm:W25 m):impl_SealMade.f l m.f0 m.f1 m.f2 = some (madeIs l m):=by
 obtain ⟨a,b,c⟩:=m
 unfold impl_SealMade.f
 exact if_pos ⟨hW,hm⟩
theorem madeIs_iff {l:List S25} {m:S25}:madeIs l m = true ↔ knownOk l = true∧sealOk m = true∧Cmp l m:=by
 unfold madeIs
 rw [Bool.and_eq_true,Bool.and_eq_true]
 exact and_congr Iff.rfl (and_congr Iff.rfl (@decide_eq_true_iff _ (Classical.propDecidable _)))
theorem madeIs_same {l l':List S25} {m:S25} (hk:knownOk l = knownOk l') (h:Cmp l m ↔ Cmp l' m):madeIs l m = madeIs l' m:=by
 rw [Bool.eq_iff_iff,madeIs_iff,madeIs_iff,hk,h]
theorem knownOk_iff {l:List S25}:knownOk l = true ↔ l.length ≤ 6∧∀ y,y ∈ l → sealOk y = true:=by
 unfold knownOk
 rw [Bool.and_eq_true,List.all_eq_true]
 exact and_congr decide_eq_true_iff Iff.rfl
theorem knownOk_add {l:List S25} {m:S25} (h:knownOk l = true) (hl:l.length < 6) (hm:sealOk m = true):knownOk (l ++ [m]) = true:=by
 rw [knownOk_iff] at h ⊢
 refine ⟨by simp;omega,fun y hy=>?_⟩
 rcases List.mem_append.1 hy with hy | hy
 ·exact h.2 y hy
 ·rw [List.mem_singleton.1 hy]
  exact hm
theorem W25_add {l:List S25} {m:S25} (h:∀ y,y ∈ l → W25 y) (hm:W25 m):∀ y,y ∈ l ++ [m] → W25 y:=fun y hy=>by
 rcases List.mem_append.1 hy with hy | hy
 ·exact h y hy
 ·rw [List.mem_singleton.1 hy]
  exact hm
theorem sealOk_nm {n:Int} (h0:0 ≤ n) (h1:n ≤ 9):sealOk (nm n) = true:=by
 simp [nm,sealOk,S25.ok,okL,okHead,S25.nodes,nodesL,h0,h1]
theorem sealOk_sh:sealOk sh = true:=by
 simp [sh,nm,sealOk,S25.ok,okL,okHead,S25.nodes,nodesL]
theorem W25.sh:W25 sh:=.mk _ _ _ (by simp) (by
 intro y hy
 simp only [List.mem_cons,List.not_mem_nil,or_false] at hy
 rcases hy with rfl | rfl <;> exact W25.nm _)
end Go.Proofs.YtbcjpdahdecehaaDoor.P
