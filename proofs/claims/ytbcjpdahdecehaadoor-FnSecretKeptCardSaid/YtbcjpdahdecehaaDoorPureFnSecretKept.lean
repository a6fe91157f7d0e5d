import Derived.Test.YtbcjpdahdecehaaDoorP0
import Derived.Test.YtbcjpdahdecehaaDoorP3
import Derived.Test.YtbcjpdahdecehaaDoorP5
import Derived.Test.YtbcjpdahdecehaaDoorP6
import Derived.Test.YtbcjpdahdecehaaDoorPureFnSealMade
namespace Go.Proofs.YtbcjpdahdecehaaDoor.Pure
open Go.RowKit Go.Proofs.YtbcjpdahdecehaaDoor.P Go.Proofs.YtbcjpdahdecehaaDoorW.PrintWords Go.Proofs.YtbcjpdahdecehaaDoorW.PrintLast
theorem secret_l1 {l:List S25} (hw:∀ y,y ∈ l → W25 y) (hk:knownOk l = true) (hl:l.length ≤ 4) (hc:∀ y,y ∈ l → P.Clean y):∀ (d i:Nat),i + d = 10 → Ev (fun k=>laws_FnSecretKept.l1 k l (l ++ [sh]) i) true:=by
 have k1:knownOk (l ++ [sh]) = true:=knownOk_add hk (by omega) sealOk_sh
 have w1:=W25_add hw W25.sh
 intro d
 induction d with
 | zero =>
  intro i hi
  have k2:knownOk (l ++ [sh] ++ [nm 9]) = true:=knownOk_add k1 (by simp;omega) (sealOk_nm (by omega) (by omega))
  have w2:=W25_add w1 (W25.nm 9)
  have e1:impl_SealMade.f (l ++ [sh]) 0 8 [] = some (madeIs (l ++ [sh]) (nm 8)):=implMade_eq w1 (W25.nm 8)
  have e2:impl_SealMade.f (l ++ [sh] ++ [nm 9]) 0 8 [] = some (madeIs (l ++ [sh] ++ [nm 9]) (nm 8)):=implMade_eq w2 (W25.nm 8)
  have n1:madeIs (l ++ [sh]) (nm 8) = false:=by
   rw [Bool.eq_false_iff]
   intro h
   exact (cmp_secret hc (madeIs_iff.1 h).2.2).2.1 rfl
  have n2:madeIs (l ++ [sh] ++ [nm 9]) (nm 8) = true:=madeIs_iff.2 ⟨k2,sealOk_nm (by omega) (by omega),.own (.open (p:=nm 9) (.base (by simp [sh])) (.own (.base (by simp))))⟩
  refine Ev.step (f:=fun _=>some true) (fun k=>?_) (Ev.now _)
  simp only [laws_FnSecretKept.l1]
  rw [if_neg (by omega),e1,Option.bind_some,n1,if_neg (by simp),if_pos (by simp;omega)]
  exact (congrArg (fun o=>o.bind fun t=>some t) (e2.trans (congrArg some n2)))
 | succ d ih =>
  intro i hi
  have e1:impl_SealMade.f l 0 i [] = some (madeIs l (nm i)):=implMade_eq hw (W25.nm i)
  have e2:impl_SealMade.f (l ++ [sh]) 0 i [] = some (madeIs (l ++ [sh]) (nm i)):=implMade_eq w1 (W25.nm i)
  have e:madeIs (l ++ [sh]) (nm i) = madeIs l (nm i):=madeIs_same (k1.trans hk.symm) ⟨fun h=>by
   have:=cmp_secret hc h
   refine this.1 fun z hz=>?_
   rw [subs_nm,List.mem_singleton] at hz
   rw [hz]
   exact this.2,fun h=>h.mono fun y hy=>List.mem_append_left _ hy⟩
  refine Ev.step (fun k=>?_) (ih (i + 1) (by omega))
  simp only [laws_FnSecretKept.l1]
  rw [if_pos (by omega),e2,Option.bind_some,e1,Option.bind_some,e,if_neg (by simp),wrap_succ (show i < 10 by omega) (by omega)]
theorem secret_l0 {l:List S25} (hl:l.length ≤ 7) (hw:∀ y,y ∈ l → W25 y):∀ (d i:Nat),i + d = l.length → (∀ y,y ∈ l.take i → sealOk y = true∧P.Clean y) → Ev (fun k=>laws_FnSecretKept.l0 k l i) true:=by
 intro d
 induction d with
 | zero =>
  intro i hi hp
  rw [List.take_of_length_le (by omega)] at hp
  by_cases h4:l.length ≤ 4
  ·have hk:knownOk l = true:=knownOk_iff.2 ⟨by omega,fun y hy=>(hp y hy).1⟩
   refine Ev.step (fun k=>?_) (secret_l1 hw hk h4 (fun y hy=>(hp y hy).2) 10 0 (by omega))
   simp only [laws_FnSecretKept.l0]
   rw [if_neg (by omega),wrap_id (by omega) (by omega),if_neg (by omega)]
   simp only [Option.bind_some,List.nil_append,List.length_nil]
   rw [if_pos (by omega),if_pos (by omega)]
   rfl
  ·refine Ev.step (f:=fun _=>some true) (fun k=>?_) (Ev.now _)
   simp only [laws_FnSecretKept.l0]
   rw [if_neg (by omega),wrap_id (by omega) (by omega),if_pos (by omega)]
 | succ d ih =>
  intro i hi hp
  have hil:i < l.length:=by omega
  have hy:=hw _ (List.getElem_mem hil)
  have e8:=implUnder_ev (W25.nm 8) hy
  have e9:=implUnder_ev (W25.nm 9) hy
  rw [sealOk_nm (by omega) (by omega),Bool.true_and] at e8 e9
  have hok:=okImpl_ev hy
  have he:=rd25_nat l i hil
  have hw1:wrap64 ((i:Int) + 1) = ((i + 1:Nat):Int):=wrap_succ hil (by omega)
  have hd:Ev (fun _:Nat=>some true) true:=Ev.now _
  cases c1:sealOk l[i] with
  | false =>
   refine Ev.sb hok (f:=fun _=>some true) (fun k hk=>?_) hd
   simp only [laws_FnSecretKept.l0]
   rw [if_pos (by omega),if_pos (by omega),he,hk,c1,Option.bind_some,if_neg (by simp)]
  | true =>
   rw [c1,Bool.true_and] at e8 e9
   refine Ev.sb hok (f:=fun k=>(impl_SealUnder.f k 0 8 ([]:List S25) l[i].f0 l[i].f1 l[i].f2).bind fun t596=>(if t596 = true then (some true) else ((impl_SealUnder.f k 0 9 ([]:List S25) l[i].f0 l[i].f1 l[i].f2).bind fun t598=>(if t598 = true then (some true) else (laws_FnSecretKept.l0 k l ((i + 1:Nat):Int)))))) (fun k hk=>?_) ?_
   ·simp only [laws_FnSecretKept.l0]
    rw [if_pos (by omega),if_pos (by omega),he,hk,c1,Option.bind_some,if_pos rfl,hw1]
   ·cases c8:(nm 8).un l[i] with
    | true =>
     refine Ev.cb e8 (f:=fun _=>some true) (fun k hk=>?_) hd
     have hk:impl_SealUnder.f k 0 8 ([]:List S25) l[i].f0 l[i].f1 l[i].f2 = _:=hk
     rw [hk,c8,Option.bind_some,if_pos rfl]
    | false =>
     refine Ev.cb e8 (f:=fun k=>(impl_SealUnder.f k 0 9 ([]:List S25) l[i].f0 l[i].f1 l[i].f2).bind fun t598=>(if t598 = true then (some true) else (laws_FnSecretKept.l0 k l ((i + 1:Nat):Int)))) (fun k hk=>?_) ?_
     ·have hk:impl_SealUnder.f k 0 8 ([]:List S25) l[i].f0 l[i].f1 l[i].f2 = _:=hk
      rw [hk,c8,Option.bind_some,if_neg (by simp)]
     ·cases c9:(nm 9).un l[i] with
      | true =>
       refine Ev.cb e9 (f:=fun _=>some true) (fun k hk=>?_) hd
       have hk:impl_SealUnder.f k 0 9 ([]:List S25) l[i].f0 l[i].f1 l[i].f2 = _:=hk
       rw [hk,c9,Option.bind_some,if_pos rfl]
      | false =>
       refine Ev.cb e9 (fun k hk=>?_) (ih (i + 1) (by omega) (fun y hy=>?_))
       ·have hk:impl_SealUnder.f k 0 9 ([]:List S25) l[i].f0 l[i].f1 l[i].f2 = _:=hk
        rw [hk,c9,Option.bind_some,if_neg (by simp)]
       ·rw [List.take_succ_eq_append_getElem hil] at hy
        rcases List.mem_append.1 hy with hy | hy
        ·exact hp y hy
        ·rw [List.mem_singleton.1 hy]
         exact ⟨c1,fun z hz=>⟨un_false c8 z hz,un_false c9 z hz⟩⟩
theorem FnSecretKept:laws_FnSecretKept.Pure:=by
 intro l0 hlen hlen2 hwf
 by_cases hl:(l0.length:Int) > 1048576
 ·exact ⟨0,by simp only [laws_FnSecretKept.f];rw [if_pos hl]⟩
 ·obtain ⟨l,m,h7,hw,hm,hd⟩:=drawMade_ev hwf
  refine Ev.rounds (g:=fun k=>laws_FnSecretKept.f k l0) (Ev.cb hd (f:=fun k=>(spec_SealMade.f k l m.f0 m.f1 m.f2).bind fun t592=>(if (madeIs l m != t592) = true then (some false) else (laws_FnSecretKept.l0 k l 0))) (fun k hk=>?_) (Ev.cb (specMade_ev (by omega) hw hm) (fun k hk=>?_) (secret_l0 h7 hw l.length 0 (by omega) (by simp))))
  ·simp only [laws_FnSecretKept.f]
   rw [if_neg hl,hk,Option.bind_some]
   dsimp only
   rw [implMade_eq hw hm,Option.bind_some]
  ·rw [hk,Option.bind_some,if_neg (by simp)]
   rfl
end Go.Proofs.YtbcjpdahdecehaaDoor.Pure
