/- Events: equal, of a thread. Plain. -/
import Derived.Test.YthljlnkanllpnaaP0
import Derived.Test.YthljlnkanllpnaaP1
import Derived.Test.YthljlnkanllpnaaP2
import Derived.Test.YthljlnkanllpnaaBase
namespace Go.Proofs.Ythljlnkanllpnaa.P
open Go.RowKit Go.Proofs.YthljlnkanllpnaaW.PrintWords Go.Proofs.YthljlnkanllpnaaW.PrintLast Go.Proofs.YthljlnkanllpnaaW.PrintMore
set_option linter.unusedVariables false
set_option linter.unusedSimpArgs false
instance decS32:DecidableEq S32:=fun a b=>decidable_of_iff (a.f0 = b.f0∧a.f1 = b.f1) ⟨fun h=>by cases a;cases b;cases h.1;cases h.2;rfl,fun h=>by rw [h];exact ⟨rfl,rfl⟩⟩
theorem rdE_at (xs:List S32) (i:Nat) (h:i < xs.length):rd_T32 xs (i:Int) = xs[i]:=by
 simp [rd_T32,List.getD_eq_getElem?_getD,List.getElem?_eq_getElem h]
theorem evNe (a b:S32):(!((a.f0) == (b.f0)) || (!((a.f1) == (b.f1)))) = !decide (a = b):=by
 obtain ⟨a0,a1⟩:=a
 obtain ⟨b0,b1⟩:=b
 by_cases h0:a0 = b0 <;> by_cases h1:a1 = b1 <;> simp [h0,h1]
def hasB (e:S32) (k:Int):Bool:=decide (e.f0 = k) || (e.f1 == k)
theorem has_f (e:S32) (k:Int):impl_has.f e.f0 e.f1 k = some (hasB e k):=by
 unfold impl_has.f hasB
 by_cases h:e.f0 = k
 ·rw [if_pos h];simp [h]
 ·rw [if_neg h];simp [h]
def linkB (e f:S32):Bool:=hasB f e.f0 || (decide (e.f1 ≥ 0) && hasB f e.f1)
def ofP (h:List S32) (k:Int):List S32:=h.filter (fun e=>hasB e k)
theorem ofP_length (h:List S32) (k:Int):(ofP h k).length ≤ h.length:=List.length_filter_le _ _
theorem shares_f (e f:S32):spec_l19Shares.f e.f0 e.f1 f.f0 f.f1 = some (linkB e f):=by
 unfold spec_l19Shares.f linkB hasB
 by_cases h0:e.f0 = f.f0
 ·rw [if_pos h0];simp [h0]
 ·rw [if_neg h0]
  by_cases h1:e.f0 = f.f1
  ·rw [if_pos h1];simp [h1]
  ·rw [if_neg h1]
   by_cases h2:e.f1 ≥ 0
   ·rw [if_pos h2]
    by_cases h3:e.f1 = f.f0
    ·rw [if_pos h3];simp [h3,show 0 ≤ f.f0 by omega]
    ·rw [if_neg h3]
     have e1:(f.f0 = e.f0) = False:=by simp;exact fun h=>h0 h.symm
     have e2:(f.f1 = e.f0) = False:=by simp;exact fun h=>h1 h.symm
     have e3:(f.f0 = e.f1) = False:=by simp;exact fun h=>h3 h.symm
     simp [e1,e2,e3,show 0 ≤ e.f1 from h2]
     rw [Bool.eq_iff_iff]
     simp
     omega
   ·rw [if_neg h2]
    have e1:(f.f0 = e.f0) = False:=by simp;exact fun h=>h0 h.symm
    have e2:(f.f1 = e.f0) = False:=by simp;exact fun h=>h1 h.symm
    simp [e1,e2,show ¬ 0 ≤ e.f1 from h2]
end Go.Proofs.Ythljlnkanllpnaa.P
