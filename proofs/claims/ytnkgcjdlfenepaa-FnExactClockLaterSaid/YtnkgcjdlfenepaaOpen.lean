/- Arguments that are read as data are values of the print's kinds: numbers, strings, slices, structs, structs nested in themselves. Plain lemmas; no condition. -/
import Derived.Test.YtnkgcjdlfenepaaWWords
import Derived.Test.YtnkgcjdlfenepaaWLast
import Derived.Test.YtnkgcjdlfenepaaWMore
import Derived.Deep.Slices
import Derived.SizedLaws
import Derived.WideShapes
namespace Go.Proofs.Ytnkgcjdlfenepaa.Open
open Go.RowKit Go.Proofs.YtnkgcjdlfenepaaW.PrintWords Go.ChangeShapes Go.WideShapes
set_option linter.unusedVariables false
theorem exists_list {α:Type} (p:Nat → α → Prop):∀ n,(∀ i,i < n → ∃ a,p i a) → ∃ xs:List α,xs.length = n∧∀ i a,xs[i]? = some a → p i a
 | 0,_=>⟨[],rfl,fun i a h=>by simp at h⟩
 | n + 1,h=>by
  obtain ⟨xs,hl,hx⟩:=exists_list p n (fun i hi=>h i (by omega))
  obtain ⟨a,ha⟩:=h n (by omega)
  refine ⟨xs ++ [a],by simp [hl],fun i b hb=>?_⟩
  rcases Nat.lt_or_ge i xs.length with hi | hi
  ·rw [List.getElem?_append_left hi] at hb
   exact hx i b hb
  ·rw [List.getElem?_append_right hi] at hb
   have h0:i - xs.length = 0:=by
    rcases Nat.eq_zero_or_pos (i - xs.length) with h0 | h0
    ·exact h0
    ·rw [List.getElem?_eq_none (by simp;omega)] at hb
     cases hb
   rw [h0] at hb
   have:a = b:=by simpa using hb
   subst this
   have:i = n:=by omega
   subst this
   exact ha
def OpensAt {α:Type} (P:Program) (t:TypeId) (d:Kd α) (good:α → Prop) (fuel:Nat):Prop :=
 ∀ (H:Type) (enc:TypeId × Value → H) (w:World) (cs:List Value) (x:DataW H × List MemPlace),
  DataW.trod enc P w 0 (fun _=>true) true fuel t cs = some x → ∃ a,d.K w a cs∧good a
section
variable {α β γ δ:Type} {P:Program} {t e:TypeId} {n:Nat}
theorem opens_int {k:IntKind} (ht:P.underlying t = some (.int k)):OpensAt P t (Kd.int k) (fun i=>(Lit.int k i).wf = true) n:=by
 intro H enc w cs x h
 obtain ⟨i,rfl,_,hw⟩:=DataW.trod_int ht h
 exact ⟨i,rfl,hw⟩
theorem opens_slice {d:Kd α} {g:α → Prop} (ht:P.underlying t = some (.slice e)) (hc:P.cellsOf e = d.sz) (he:∀ m,m < n → OpensAt P e d g m) :
  OpensAt P t (Kd.slice e d) (fun xs=>xs.length ≤ maxLen∧∀ a ∈ xs,g a) n:=by
 intro H enc w cs x h
 rcases DataW.trod_slice ht h with ⟨rfl,_⟩ | ⟨a,len,cap,elems,rest,m,rfl,rfl,rfl,_,hl,hm,hlen,hel,_,_⟩
 ·exact ⟨[],⟨none,0,rfl,Nat.le_refl _,rfl,by simp,fun h0=>absurd h0 (by simp)⟩,by simp,by simp⟩
 ·obtain ⟨xs,hxl,hxs⟩:=exists_list (fun i (b:α)=>g b∧∃ c,c.length = d.sz∧d.K w b c∧∀ j u,c[j]? = some u → w.cell? (a.add (i * d.sz + j)) = some u) len (fun i hi=>by
   have h1:=hel i hi
   rw [List.getElem?_eq_getElem (by omega)] at h1
   obtain ⟨cs',h2,h3⟩:=Option.bind_eq_some_iff.1 h1
   obtain ⟨b,hk,hg⟩:=he m (by omega) H enc w cs' _ h3
   obtain ⟨_,hlen',hcell⟩:=World.cells?_some h2
   refine ⟨b,hg,cs',by rw [hlen',hc],hk,fun j u hu=>?_⟩
   have hj:j < cs'.length:=(List.getElem?_eq_some_iff.1 hu).1
   have:=hcell j (by omega)
   rw [← hu,← this,hc,add_add])
  refine ⟨xs,⟨some a,cap,by rw [hxl],by omega,rfl,by simp only [maxLen] at hm;omega,fun _=>⟨a,rfl,fun j p hj=>?_⟩⟩,by simp only [maxLen] at hm ⊢;omega,fun b hb=>?_⟩
  ·obtain ⟨_,c,h1,h2,h3⟩:=hxs j p hj
   exact ⟨c,h1,h2,h3⟩
  ·obtain ⟨i,hi⟩:=List.mem_iff_getElem?.1 hb
   exact (hxs i b hi).1
theorem opens_pair3 {a:Kd α} {b:Kd β} {c:Kd γ} {g0:α → Prop} {g1:β → Prop} {g2:γ → Prop} {f0 f1 f2:Field} (ht:P.underlying t = some (.struct #[f0,f1,f2])) (hC:P.cellsOf t = 3)
  (o0:f0.offset = 0) (o1:f1.offset = 1) (o2:f2.offset = 2) (k0:P.cellsOf f0.type = 1) (k1:P.cellsOf f1.type = 1) (k2:P.cellsOf f2.type = 1)
  (H0:∀ m,m < n → OpensAt P f0.type a g0 m) (H1:∀ m,m < n → OpensAt P f1.type b g1 m) (H2:∀ m,m < n → OpensAt P f2.type c g2 m):OpensAt P t (Kd.pair a (Kd.pair b c)) (fun x=>g0 x.1∧g1 x.2.1∧g2 x.2.2) n:=by
 intro H enc w cs x h
 obtain ⟨xs,m,rfl,rfl,hl,hxl,hf⟩:=DataW.trod_struct ht h
 rw [hC] at hl
 match cs,hl with
 | [c0,c1,c2],_ =>
 match xs,hxl with
 | [y0,y1,y2],_ =>
 have e0:=hf 0 f0 rfl
 have e1:=hf 1 f1 rfl
 have e2:=hf 2 f2 rfl
 rw [o0,k0] at e0
 rw [o1,k1] at e1
 rw [o2,k2] at e2
 obtain ⟨u0,hk0,hg0⟩:=H0 m (by omega) H enc w _ _ e0
 obtain ⟨u1,hk1,hg1⟩:=H1 m (by omega) H enc w _ _ e1
 obtain ⟨u2,hk2,hg2⟩:=H2 m (by omega) H enc w _ _ e2
 exact ⟨(u0,u1,u2),⟨[c0],[c1,c2],rfl,hk0,[c1],[c2],rfl,hk1,hk2⟩,hg0,hg1,hg2⟩
theorem open_agg {d:Kd α} {g:α → Prop} {fs:Array Field} {r:Reach} {b0:Nat} {H:Type} {enc:TypeId × Value → H} {w:World} {v:Value} {D:DataW H} {p:List MemPlace}
  (ht:P.underlying t = some (.struct fs)) (hO:∀ m,OpensAt P t d g m) (hv:Value.okWide P w r b0 t v) (h:DataW.Trod enc P w 0 (fun _=>true) true t v D p) :
  ∃ (cs:Array Value) (a:α),v = .agg cs∧d.K w a cs.toList∧g a:=by
 obtain ⟨cs,rfl,hsz⟩:=okWide_struct ht hv
 obtain ⟨fuel,hf⟩:=h
 obtain ⟨a,hk,hg⟩:=hO fuel H enc w _ _ hf
 exact ⟨cs,a,rfl,hk,hg⟩
end
end Go.Proofs.Ytnkgcjdlfenepaa.Open
