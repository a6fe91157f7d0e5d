/- slices.Clone and slices.Delete over events, as the print's texts call them. No condition. -/
import Derived.Test.YthljlnkanllpnaaHEv
import Derived.Test.YthljlnkanllpnaaWKept
namespace Go.Proofs.Ythljlnkanllpnaa.P
open Go.RowKit Go.Proofs.YthljlnkanllpnaaW.PrintWords Go.Proofs.YthljlnkanllpnaaW.PrintLast Go.Proofs.YthljlnkanllpnaaW.PrintMore
set_option linter.unusedVariables false
set_option linter.unusedSimpArgs false
def impl_Event_70.f (l0:List S32):Option (List S32):=if l0.length < 8796093022208 then some l0 else none
theorem impl_Event_70.calls (A0:Option Addr) (c0:Nat) (l0:List S32) (r:List S32) (w:World) (hr0:Kd.C k32 w A0 l0.length l0) (hc0:l0.length ≤ c0) (h:impl_Event_70.f l0 = some r) :
  Calls Try.prog 70 #[.slice A0 l0.length c0] w fun e w'=>∃ v0_:Value,e = .returned (v0_)∧Kd.R k32 32 w' w.heap.size (fun _=>True) v0_ r∧Below w.heap.size w w':=by
 unfold impl_Event_70.f at h
 by_cases hl:l0.length < 8796093022208
 ·rw [if_pos hl] at h
  obtain rfl:=Option.some.inj h
  exact cloneE A0 c0 l0 w hr0 hc0 hl
 ·rw [if_neg hl] at h
  cases h
def impl_Event_69.f (l0:List S32) (a1 a2:Int):Option (List S32):=if 0 ≤ a1 then (if a1 < (l0.length:Int) then (if a2 = a1 + 1 then some (l0.eraseIdx a1.toNat) else none) else none) else none
theorem impl_Event_69.calls (P0_:Nat → Prop) (u9000_:Value) (l0:List S32) (a1 a2:Int) (r:List S32) (w0 w:World) (hB:Below w0.heap.size w0 w) (ho0:Kd.R k32 32 w w0.heap.size P0_ u9000_ l0) (h:impl_Event_69.f l0 a1 a2 = some r) :
  Calls Try.prog 69 #[u9000_,.int .i64 a1,.int .i64 a2] w fun e w'=>∃ v0_:Value,e = .returned (v0_)∧Kd.R k32 32 w' w0.heap.size (fun k_=>(P0_ k_ ∨ w.heap.size ≤ k_)) v0_ r∧Below w0.heap.size w0 w'∧Kept w w' (fun k_=>P0_ k_):=by
 unfold impl_Event_69.f at h
 by_cases h1:0 ≤ a1
 ·rw [if_pos h1] at h
  by_cases h2:a1 < (l0.length:Int)
  ·rw [if_pos h2] at h
   by_cases h3:a2 = a1 + 1
   ·rw [if_pos h3] at h
    obtain rfl:=Option.some.inj h
    subst h3
    obtain ⟨i,rfl⟩:∃ i:Nat,a1 = (i:Int):=⟨a1.toNat,by omega⟩
    obtain ⟨A,c,e0⟩:=Kd.R_slice ho0
    subst e0
    obtain ⟨g,c2,e1,_,_,_⟩:=Kd.R_form ho0 (by omega)
    injection e1 with e1 e2 e3
    subst e1
    obtain ⟨m,hm⟩:∃ m,l0.length = m + 1:=⟨l0.length - 1,by omega⟩
    have hP:P0_ g:=ho0.1 g rfl
    rw [hm] at ho0
    rw [hm,Int.toNat_natCast]
    refine (deleteE g c i m l0 P0_ w0 w hB hm ho0 (by omega)).mono ?_
    rintro e w' ⟨he,hr,hb,hg⟩
    exact ⟨_,he,Kd.R_mono hr (fun _ hk=>.inl hk),hb,Kept.of_grown hg (Kept.refl w _) (fun k hk=>by cases hk;exact .inl hP)⟩
   ·rw [if_neg h3] at h
    cases h
  ·rw [if_neg h2] at h
   cases h
 ·rw [if_neg h1] at h
  cases h
end Go.Proofs.Ythljlnkanllpnaa.P
