import Derived.Test.YtbcjpdahdecehaaDoorP0
import Derived.Test.YtbcjpdahdecehaaDoorP3
import Derived.Test.YtbcjpdahdecehaaDoorP5
import Derived.Test.YtbcjpdahdecehaaDoorDrawAsk
import Derived.Test.YtbcjpdahdecehaaDoorSealLaw
namespace Go.Proofs.YtbcjpdahdecehaaDoor.Pure
open Go.RowKit Go.Proofs.YtbcjpdahdecehaaDoor.P Go.Proofs.YtbcjpdahdecehaaDoorW.PrintWords Go.Proofs.YtbcjpdahdecehaaDoorW.PrintLast
theorem drawMade_ev {l0:List Int} (hwf:∀ x,x ∈ l0 → (Lit.int .u8 x).wf = true):∃ (l:List S25) (m:S25),l.length ≤ 7∧(∀ y,y ∈ l → W25 y)∧W25 m∧Ev (fun k=>spec_DrawSealMade.f k l0) (l,m.f0,m.f1,m.f2):=by
 obtain ⟨s,hs,ho⟩:=open_ev hwf
 obtain ⟨l,m,p1,hl,hw,hm,q1,q2,h1⟩:=asked_ev hs (p:=0) (by omega) (by omega)
 refine ⟨l,m,hl,fun y hy=>(hw y hy).1,hm,Ev.cb h1 (f:=fun _=>some (l,m.f0,m.f1,m.f2)) (fun k hk=>?_) (Ev.now _)⟩
 simp only [spec_DrawSealMade.f]
 rw [ho,Option.bind_some]
 dsimp only
 rw [hk,Option.bind_some]
theorem made_l0 {l:List S25} (hw:∀ y,y ∈ l → W25 y) {m:S25} (hm:W25 m) (hmade:madeIs l m = true) (hl:l.length < 6):∀ (d i:Nat),i + d = 10 → Ev (fun k=>laws_FnSealMade.l0 k l (l ++ [nm 7]) (l ++ [m]) i m.f0 m.f1 m.f2) true:=by
 obtain ⟨hk,hok,hcmp⟩:=madeIs_iff.1 hmade
 have k1:knownOk (l ++ [nm 7]) = true:=knownOk_add hk hl (sealOk_nm (by omega) (by omega))
 have k2:knownOk (l ++ [m]) = true:=knownOk_add hk hl hok
 have w1:=W25_add hw (W25.nm 7)
 have w2:=W25_add hw hm
 intro d
 induction d with
 | zero =>
  intro i hi
  have e:madeIs (l ++ [nm 7]) m = true:=madeIs_iff.2 ⟨k1,hok,hcmp.mono fun y hy=>List.mem_append_left _ hy⟩
  refine Ev.step (f:=fun _=>some true) (fun k=>?_) (Ev.now _)
  simp only [laws_FnSealMade.l0]
  rw [if_neg (by omega),implMade_eq w1 hm,Option.bind_some,e]
 | succ d ih =>
  intro i hi
  have e1:impl_SealMade.f l 0 i [] = some (madeIs l (nm i)):=implMade_eq hw (W25.nm i)
  have e2:impl_SealMade.f (l ++ [m]) 0 i [] = some (madeIs (l ++ [m]) (nm i)):=implMade_eq w2 (W25.nm i)
  have e:madeIs l (nm i) = madeIs (l ++ [m]) (nm i):=madeIs_same (hk.trans k2.symm) ⟨fun h=>h.mono fun y hy=>List.mem_append_left _ hy,cmp_cut hcmp⟩
  refine Ev.step (fun k=>?_) (ih (i + 1) (by omega))
  simp only [laws_FnSealMade.l0]
  rw [if_pos (by omega),e1,Option.bind_some,e2,Option.bind_some,e,if_neg (by simp),wrap_succ (show i < 10 by omega) (by omega)]
theorem FnSealMade:laws_FnSealMade.Pure:=by
 intro l0 hlen hlen2 hwf
 by_cases hl:(l0.length:Int) > 1048576
 ·exact ⟨0,by simp only [laws_FnSealMade.f];rw [if_pos hl]⟩
 ·obtain ⟨l,m,h7,hw,hm,hd⟩:=drawMade_ev hwf
  refine Ev.rounds (g:=fun k=>laws_FnSealMade.f k l0) (Ev.cb hd (f:=fun k=>(spec_SealMade.f k l m.f0 m.f1 m.f2).bind fun t554=>(if (madeIs l m != t554) = true then (some false) else (if madeIs l m = true then (laws_FnSealMade.j0 k l ((l.length:Int) == 6) m.f0 m.f1 m.f2) else (laws_FnSealMade.j0 k l true m.f0 m.f1 m.f2)))) (fun k hk=>?_) (Ev.cb (specMade_ev (by omega) hw hm) (f:=fun k=>if madeIs l m = true then (laws_FnSealMade.j0 k l ((l.length:Int) == 6) m.f0 m.f1 m.f2) else (laws_FnSealMade.j0 k l true m.f0 m.f1 m.f2)) (fun k hk=>?_) ?_))
  ·simp only [laws_FnSealMade.f]
   rw [if_neg hl,hk,Option.bind_some]
   dsimp only
   rw [implMade_eq hw hm,Option.bind_some]
  ·rw [hk,Option.bind_some,if_neg (by simp)]
  ·have ht:Ev (fun k=>laws_FnSealMade.j0 k l true m.f0 m.f1 m.f2) true:=Ev.step (f:=fun _=>some true) (fun k=>by simp only [laws_FnSealMade.j0];rw [if_pos trivial]) (Ev.now _)
   cases hmade:madeIs l m with
   | false=>exact Ev.congr (fun k=>if_neg (by simp)) ht
   | true =>
    refine Ev.congr (f:=fun k=>laws_FnSealMade.j0 k l ((l.length:Int) == 6) m.f0 m.f1 m.f2) (fun k=>if_pos rfl) ?_
    have h6:=(knownOk_iff.1 (madeIs_iff.1 hmade).1).1
    by_cases h:l.length = 6
    ·rw [show ((l.length:Int) == 6) = true by rw [h];rfl]
     exact ht
    ·rw [show ((l.length:Int) == 6) = false by rw [beq_eq_false_iff_ne];omega]
     refine Ev.step (fun k=>?_) (made_l0 hw hm hmade (by omega) 10 0 (by omega))
     simp only [laws_FnSealMade.j0]
     rw [if_neg (by simp)]
     simp only [Option.bind_some,List.nil_append,List.length_nil,List.length_singleton]
     rw [if_pos (by omega),if_pos (by omega),if_pos (by omega),if_pos (by omega),eta25]
     rfl
end Go.Proofs.YtbcjpdahdecehaaDoor.Pure
