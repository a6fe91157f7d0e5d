/- What may be undone may be taken out. Plain; no condition. -/
import Derived.Test.YthljlnkanllpnaaHistE
import Derived.Test.YthljlnkanllpnaaHistO
namespace Go.Proofs.Ythljlnkanllpnaa.P
open Go.RowKit Go.Proofs.YthljlnkanllpnaaW.PrintWords Go.Proofs.YthljlnkanllpnaaW.PrintLast Go.Proofs.YthljlnkanllpnaaW.PrintMore
set_option linter.unusedVariables false
set_option linter.unusedSimpArgs false
def freeB (h:List S32) (i:Nat):Bool:=(h.drop (i + 1)).all fun f=>!linkB (h.getD i z32) f
theorem freeB_iff {h:List S32} {i:Nat} {e:S32} (he:h[i]? = some e):freeB h i = true ↔ ∀ j f,i < j → h[j]? = some f → linkB e f = false:=by
 have hg:h.getD i z32 = e:=by rw [List.getD_eq_getElem?_getD,he];rfl
 unfold freeB
 rw [hg,List.all_eq_true]
 refine ⟨fun hh j f hij hj=>?_,fun hh f hf=>?_⟩
 ·have:=hh f (List.mem_iff_getElem?.2 ⟨j - (i + 1),by rw [List.getElem?_drop,show i + 1 + (j - (i + 1)) = j by omega];exact hj⟩)
  cases hl:linkB e f with
  | false=>rfl
  | true=>rw [hl] at this;cases this
 ·obtain ⟨j,hj⟩:=List.mem_iff_getElem?.1 hf
  rw [List.getElem?_drop] at hj
  rw [hh _ f (by omega) hj]
  rfl
theorem okH_erase {th:List (List Int)} {h:List S32} {i:Nat} (ho:okH th h = true) (hi:i < h.length) (hf:freeB h i = true):okH th (h.eraseIdx i) = true:=by
 obtain ⟨ok,hr⟩:=histAt_ok ho
 obtain ⟨b,hb⟩:=run_erase h i (far0 th) (fun e he=>(freeB_iff he).1 hf) hr
 unfold okH
 rw [hist_of ok hb]
end Go.Proofs.Ythljlnkanllpnaa.P
