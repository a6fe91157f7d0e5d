/- What the reference's functions on terms with time compute: the same plain steps and the same passing of time. No condition. -/
import Derived.Test.YtnkgcjdlfenepaaP0
import Derived.Test.YtnkgcjdlfenepaaP1
import Derived.Test.YtnkgcjdlfenepaaP2
import Derived.Test.YtnkgcjdlfenepaaP3
import Derived.Test.YtnkgcjdlfenepaaClkOps
namespace Go.Proofs.Ytnkgcjdlfenepaa.P
open Go.RowKit Go.Proofs.YtnkgcjdlfenepaaW.PrintWords Go.Proofs.YtnkgcjdlfenepaaW.PrintLast Go.Proofs.YtnkgcjdlfenepaaW.PrintMore Go.Proofs.Ytnkgcjdlfenepaa.Any
set_option linter.unusedVariables false
set_option linter.unusedSimpArgs false
set_option linter.unusedSectionVars false
theorem spCopy_ev {x:S29} (h:W29 x):Ev (fun k=>spec_l17Copy.f k x.f0 x.f1 x.f2) (x.f0,x.f1,x.f2):=by
 induction h with
 | mk a b l hl hx ih =>
  have loop:∀ (d i:Nat),i + d = l.length → Ev (fun k=>spec_l17Copy.l0 k i a b l a b (l.take i)) (a,b,l):=by
   intro d
   induction d with
   | zero =>
    intro i hi
    refine Ev.step (fun k=>?_) (Ev.to (Ev.now (a,b,l.take i)) (by rw [List.take_of_length_le (by omega)]))
    simp only [spec_l17Copy.l0]
    rw [if_neg (by omega)]
   | succ d ihd =>
    intro i hi
    have hil:i < l.length:=by omega
    refine Ev.sb (ih l[i] (List.getElem_mem hil)) (fun k hk=>?_) (ihd (i + 1) (by omega))
    simp only [spec_l17Copy.l0]
    rw [if_pos (by omega),if_pos (by omega),rd29_nat _ _ hil,hk]
    simp only [Option.bind_some]
    rw [if_pos (by rw [List.length_take];omega),wrap_succ hil (by omega),take_one hil,eta29]
  refine Ev.step (fun k=>?_) (loop l.length 0 (by omega))
  simp only [spec_l17Copy.f]
  rfl
section
variable {X Y:List S44} {b:Int} {p q:S29} {R:List S44} (hX:X.length ≤ 65536) (hY:Y.length ≤ 65536)
include hX hY
theorem sp_l3 {B:List S44} {l:List S29} {i:Nat} (hil:i < X.length) (hy:∀ y,y ∈ Y → -4 ≤ y.f0∧y.f0 ≤ 4) (hB:B.length ≤ 10000000000) (h:Ev (fun k=>spec_l17Steps.l2 k (B ++ Y.flatMap (mt X[i])) X Y (wrap64 ((i:Int) + 1)) 4 b l) R) :
  ∀ (d j:Nat),j + d = Y.length → Ev (fun k=>spec_l17Steps.l3 k (B ++ (Y.take j).flatMap (mt X[i])) X Y i j 4 b l) R:=by
 intro d
 induction d with
 | zero =>
  intro j hj
  refine Ev.step (fun k=>?_) h
  simp only [spec_l17Steps.l3]
  rw [if_neg (by omega),List.take_of_length_le (by omega)]
 | succ d ihd =>
  intro j hj
  have hjl:j < Y.length:=by omega
  have hm:=mt_len X[i] (Y.take j)
  rw [List.length_take] at hm
  have hb:=hy Y[j] (List.getElem_mem hjl)
  have hn:=ihd (j + 1) (by omega)
  rw [take_one hjl,List.flatMap_append,List.flatMap_cons,List.flatMap_nil,List.append_nil,← List.append_assoc] at hn
  refine Ev.step (fun k=>?_) hn
  simp only [spec_l17Steps.l3,spec_l17Two.f,Option.bind_some]
  rw [if_pos (by omega),if_pos (by omega),if_pos (by omega),rd44_nat _ _ hil,rd44_nat _ _ hjl,wrap_succ hjl (by omega),wrap_id (x:=-Y[j].f0) (by omega) (by omega)]
  by_cases c0:X[i].f0 = 0
  ·rw [if_pos c0,show mt X[i] Y[j] = [] by simp [mt,c0],List.append_nil]
  ·rw [if_neg c0,if_pos (by omega)]
   by_cases c1:X[i].f0 = -Y[j].f0
   ·rw [if_pos c1,if_pos (by rw [List.length_append];omega)]
    rw [show mt X[i] Y[j] = [⟨0,⟨4,0,[X[i].f1,Y[j].f1]⟩⟩] by unfold mt;rw [if_pos ⟨c0,c1⟩],eta29,eta29]
   ·rw [if_neg c1,show mt X[i] Y[j] = [] by unfold mt;rw [if_neg (fun h=>c1 h.2)],List.append_nil]
theorem sp_l2 {B:List S44} {l:List S29} (hy:∀ y,y ∈ Y → -4 ≤ y.f0∧y.f0 ≤ 4) (hB:B.length ≤ 200000) :
  ∀ (d i:Nat),i + d = X.length → Ev (fun k=>spec_l17Steps.l2 k (B ++ (X.take i).flatMap fun x=>Y.flatMap (mt x)) X Y i 4 b l) (B ++ tkMeet X Y):=by
 intro d
 induction d with
 | zero =>
  intro i hi
  refine Ev.step (fun k=>?_) (Ev.to (Ev.now (B ++ (X.take i).flatMap fun x=>Y.flatMap (mt x))) (by rw [List.take_of_length_le (by omega),tkMeet_mt]))
  simp only [spec_l17Steps.l2]
  rw [if_neg (by omega)]
 | succ d ihd =>
  intro i hi
  have hil:i < X.length:=by omega
  have hn:=ihd (i + 1) (by omega)
  rw [take_one hil,List.flatMap_append,List.flatMap_cons,List.flatMap_nil,List.append_nil,← List.append_assoc,← wrap_succ hil (by omega)] at hn
  have hf:=flat_len (l:=X.take i) (n:=Y.length) (f:=fun x=>Y.flatMap (mt x)) fun y _=>mt_len y Y
  rw [List.length_take] at hf
  have h2:min i X.length * Y.length ≤ 65536 * 65536:=Nat.mul_le_mul (by omega) hY
  have h3:=sp_l3 hX hY (R:=B ++ tkMeet X Y) (B:=B ++ (X.take i).flatMap fun x=>Y.flatMap (mt x)) (i:=i) hil hy (by rw [List.length_append];omega) hn Y.length 0 (by omega)
  rw [List.take_zero,List.flatMap_nil,List.append_nil] at h3
  refine Ev.step (fun k=>?_) h3
  simp only [spec_l17Steps.l2]
  rw [if_pos (by omega)]
  rfl
theorem sp_l1 {B:List S44} (hB:B.length ≤ 65536) (h:Ev (fun k=>spec_l17Steps.l2 k (B ++ Y.map fun y=>⟨y.f0,⟨4,0,[p,y.f1]⟩⟩) X Y 0 4 b [p,q]) R) :
  ∀ (d i:Nat),i + d = Y.length → Ev (fun k=>spec_l17Steps.l1 k (B ++ (Y.take i).map fun y=>⟨y.f0,⟨4,0,[p,y.f1]⟩⟩) X Y i 4 b [p,q]) R:=by
 intro d
 induction d with
 | zero =>
  intro i hi
  refine Ev.step (fun k=>?_) h
  simp only [spec_l17Steps.l1]
  rw [if_neg (by omega),List.take_of_length_le (by omega)]
 | succ d ihd =>
  intro i hi
  have hil:i < Y.length:=by omega
  have hn:=ihd (i + 1) (by omega)
  rw [take_one hil,List.map_append,← List.append_assoc] at hn
  refine Ev.step (fun k=>?_) hn
  simp only [spec_l17Steps.l1,spec_l17Two.f,Option.bind_some]
  rw [if_pos (by omega),if_pos (by omega),if_pos (by simp),if_pos (by rw [List.length_append,List.length_map,List.length_take];omega),rd44_nat _ _ hil,wrap_succ hil (by omega),show rd_T29 [p,q] 0 = p from rfl,eta29,eta29]
  rfl
theorem sp_l0 (h:Ev (fun k=>spec_l17Steps.l1 k (X.map fun x=>⟨x.f0,⟨4,0,[x.f1,q]⟩⟩) X Y 0 4 b [p,q]) R) :
  ∀ (d i:Nat),i + d = X.length → Ev (fun k=>spec_l17Steps.l0 k ((X.take i).map fun x=>⟨x.f0,⟨4,0,[x.f1,q]⟩⟩) X Y i 4 b [p,q]) R:=by
 intro d
 induction d with
 | zero =>
  intro i hi
  refine Ev.step (fun k=>?_) h
  simp only [spec_l17Steps.l0]
  rw [if_neg (by omega),List.take_of_length_le (by omega)]
 | succ d ihd =>
  intro i hi
  have hil:i < X.length:=by omega
  have hn:=ihd (i + 1) (by omega)
  rw [take_one hil,List.map_append] at hn
  refine Ev.step (fun k=>?_) hn
  simp only [spec_l17Steps.l0,spec_l17Two.f,Option.bind_some]
  rw [if_pos (by omega),if_pos (by omega),if_pos (by simp),if_pos (by rw [List.length_map,List.length_take];omega),rd44_nat _ _ hil,wrap_succ hil (by omega),show rd_T29 [p,q] 1 = q from rfl,eta29,eta29]
  rfl
theorem sp_par_ev (hy:∀ y,y ∈ Y → -4 ≤ y.f0∧y.f0 ≤ 4):Ev (fun k=>spec_l17Steps.l0 k ([]:List S44) X Y 0 4 b [p,q]) (tkPar p q X Y):=by
 have h2:=sp_l2 hX hY (b:=b) (l:=[p,q]) (B:=(X.map fun x=>⟨x.f0,⟨4,0,[x.f1,q]⟩⟩) ++ (Y.map fun y=>⟨y.f0,⟨4,0,[p,y.f1]⟩⟩)) hy (by rw [List.length_append,List.length_map,List.length_map];omega) X.length 0 (by omega)
 rw [List.take_zero,List.flatMap_nil,List.append_nil] at h2
 have h1:=sp_l1 hX hY (b:=b) (p:=p) (q:=q) (R:=tkPar p q X Y) (B:=X.map fun x=>⟨x.f0,⟨4,0,[x.f1,q]⟩⟩) (by rw [List.length_map];exact hX) h2 Y.length 0 (by omega)
 rw [List.take_zero,List.map_nil,List.append_nil] at h1
 exact sp_l0 hX hY h1 X.length 0 (by omega)
end
theorem spSteps_ev {x:S29} (h:OkT x):x.nodes ≤ 16 → Ev (fun k=>spec_l17Steps.f k x.f0 x.f1 x.f2) x.tk:=by
 induction h with
 | nil =>
  intro _
  rw [tk_nil]
  refine Ev.step (fun k=>?_) (Ev.now [])
  simp only [spec_l17Steps.f]
  rw [if_neg (by decide),if_neg (by decide),if_neg (by decide)]
 | act b p h0 h1 hp ih =>
  intro _
  rw [tk_act]
  refine Ev.step (fun k=>?_) (Ev.now ([⟨b,p⟩]:List S44))
  simp only [spec_l17Steps.f]
  rw [if_pos (by trivial),if_pos (by simp),show rd_T29 [p] 0 = p from rfl,eta29]
 | wait b p h0 h1 hp ih =>
  intro _
  rw [tk_wait]
  refine Ev.step (fun k=>?_) (Ev.now [])
  simp only [spec_l17Steps.f]
  rw [if_neg (by decide),if_neg (by decide),if_neg (by decide)]
 | sum p q hp hq i1 i2 =>
  intro hn
  rw [nodes2] at hn
  rw [tk_sum]
  have s1:=tk_small hp (by omega)
  have s2:=tk_small hq (by omega)
  refine Ev.sb (i1 (by omega)) (f:=fun k=>(spec_l17Steps.f k q.f0 q.f1 q.f2).bind fun t=>if p.tk.length + t.length < 2932031007402 then some (p.tk ++ t) else none) (fun k hk=>?_) (Ev.cb (i2 (by omega)) (f:=fun _=>some (p.tk ++ q.tk)) (fun k hk=>?_) (Ev.now _))
  ·simp only [spec_l17Steps.f]
   rw [if_neg (by decide),if_pos (by trivial),if_pos (by simp),show rd_T29 [p,q] 0 = p from rfl,show rd_T29 [p,q] 1 = q from rfl,hk,Option.bind_some,if_pos (by simp)]
  ·rw [hk,Option.bind_some,if_pos (by omega)]
 | par p q hp hq i1 i2 =>
  intro hn
  rw [nodes2] at hn
  rw [tk_par]
  have s1:=tk_small hp (by omega)
  have s2:=tk_small hq (by omega)
  refine Ev.sb (i1 (by omega)) (f:=fun k=>(spec_l17Steps.f k q.f0 q.f1 q.f2).bind fun t=>spec_l17Steps.l0 k ([]:List S44) p.tk t 0 4 0 [p,q]) (fun k hk=>?_) (Ev.cb (i2 (by omega)) (fun k hk=>?_) (sp_par_ev (X:=p.tk) (Y:=q.tk) (b:=0) (p:=p) (q:=q) (by omega) (by omega) (tk_act_in hq)))
  ·simp only [spec_l17Steps.f]
   rw [if_neg (by decide),if_neg (by decide),if_pos (by trivial),if_pos (by simp),show rd_T29 [p,q] 0 = p from rfl,show rd_T29 [p,q] 1 = q from rfl,hk,Option.bind_some,if_pos (by simp)]
  ·rw [hk,Option.bind_some]
section
variable {X Y:List S44} (hX:X.length ≤ 65536) (hY:Y.length ≤ 65536)
include hX hY
theorem me_l1 {i:Nat} {r:Bool} (hil:i < X.length) (hy:∀ y,y ∈ Y → -4 ≤ y.f0∧y.f0 ≤ 4) (h:Ev (fun k=>spec_l17Meet.l0 k X Y (wrap64 ((i:Int) + 1))) r) :
  ∀ (d j:Nat),j + d = Y.length → Ev (fun k=>spec_l17Meet.l1 k X Y i j) ((X[i].f0 != 0 && (Y.drop j).any fun y=>X[i].f0 == -y.f0) || r):=by
 intro d
 induction d with
 | zero =>
  intro j hj
  refine Ev.step (fun k=>?_) (Ev.to h (by rw [List.drop_eq_nil_of_le (by omega)];simp))
  simp only [spec_l17Meet.l1]
  rw [if_neg (by omega)]
 | succ d ihd =>
  intro j hj
  have hjl:j < Y.length:=by omega
  have hb:=hy Y[j] (List.getElem_mem hjl)
  rw [List.drop_eq_getElem_cons hjl,List.any_cons]
  by_cases c0:X[i].f0 = 0
  ·refine Ev.step (fun k=>?_) (Ev.to (ihd (j + 1) (by omega)) (by simp [c0]))
   simp only [spec_l17Meet.l1]
   rw [if_pos (by omega),if_pos (by omega),if_pos (by omega),rd44_nat _ _ hil,if_pos c0,wrap_succ hjl (by omega)]
  ·have c0':(X[i].f0 != 0) = true:=by simpa using c0
   by_cases c1:X[i].f0 = -Y[j].f0
   ·refine Ev.step (f:=fun _=>some true) (fun k=>?_) (Ev.to (Ev.now _) (by rw [c0',← c1];simp))
    simp only [spec_l17Meet.l1]
    rw [if_pos (by omega),if_pos (by omega),if_pos (by omega),rd44_nat _ _ hil,if_neg c0,if_pos (by omega),rd44_nat _ _ hjl,wrap_id (x:=-Y[j].f0) (by omega) (by omega),if_pos c1]
   ·have c1':(X[i].f0 == -Y[j].f0) = false:=by simpa using c1
    refine Ev.step (fun k=>?_) (Ev.to (ihd (j + 1) (by omega)) (by rw [c1',Bool.false_or]))
    simp only [spec_l17Meet.l1]
    rw [if_pos (by omega),if_pos (by omega),if_pos (by omega),rd44_nat _ _ hil,if_neg c0,if_pos (by omega),rd44_nat _ _ hjl,wrap_id (x:=-Y[j].f0) (by omega) (by omega),if_neg c1,wrap_succ hjl (by omega)]
theorem me_l0 (hy:∀ y,y ∈ Y → -4 ≤ y.f0∧y.f0 ≤ 4):∀ (d i:Nat),i + d = X.length → Ev (fun k=>spec_l17Meet.l0 k X Y i) (meets (X.drop i) Y):=by
 intro d
 induction d with
 | zero =>
  intro i hi
  rw [List.drop_eq_nil_of_le (by omega)]
  refine Ev.step (f:=fun _=>some false) (fun k=>?_) (Ev.to (Ev.now _) (by simp [meets]))
  simp only [spec_l17Meet.l0]
  rw [if_neg (by omega)]
 | succ d ihd =>
  intro i hi
  have hil:i < X.length:=by omega
  rw [meets_drop hil]
  have hn:=ihd (i + 1) (by omega)
  rw [← wrap_succ hil (by omega)] at hn
  have h1:=me_l1 hX hY hil hy hn Y.length 0 (by omega)
  rw [List.drop_zero] at h1
  refine Ev.step (fun k=>?_) h1
  simp only [spec_l17Meet.l0]
  rw [if_pos (by omega)]
  rfl
end
theorem spMeet_ev {x y:S29} (hx:OkT x) (hy:OkT y) (nx:x.nodes ≤ 16) (ny:y.nodes ≤ 16):Ev (fun k=>spec_l17Meet.f k x.f0 x.f1 x.f2 y.f0 y.f1 y.f2) (meets x.tk y.tk):=by
 have s1:=tk_small hx nx
 have s2:=tk_small hy ny
 have h0:=me_l0 (X:=x.tk) (Y:=y.tk) (by omega) (by omega) (tk_act_in hy) x.tk.length 0 (by omega)
 rw [List.drop_zero] at h0
 refine Ev.cb (spSteps_ev hx nx) (f:=fun k=>(spec_l17Steps.f k y.f0 y.f1 y.f2).bind fun t=>spec_l17Meet.l0 k x.tk t 0) (fun k hk=>?_) (Ev.cb (spSteps_ev hy ny) (fun k hk=>?_) h0)
 ·simp only [spec_l17Meet.f]
  rw [hk,Option.bind_some]
 ·rw [hk,Option.bind_some]
  rfl
def PassIs (x:S29) (r:Int × Int × List S29 × Bool):Prop:=r.2.2.2 = x.ps.2∧(x.ps.2 = true → r = (x.ps.1.f0,x.ps.1.f1,x.ps.1.f2,true))
theorem spPass_ev {x:S29} (h:OkT x):x.nodes ≤ 16 → ∃ r,PassIs x r∧Ev (fun k=>spec_l17Pass.f k x.f0 x.f1 x.f2) r:=by
 induction h with
 | nil =>
  intro _
  refine ⟨(0,0,[],true),?_,Ev.step (f:=fun _=>some (0,0,[],true)) (fun k=>?_) (Ev.now _)⟩
  ·rw [PassIs,ps_nil];exact ⟨rfl,fun _=>rfl⟩
  ·simp only [spec_l17Pass.f]
   rw [if_pos (by trivial)]
 | act b p h0 h1 hp ih =>
  intro _
  refine ⟨(1,b,[p],b != 0),?_,Ev.sb (spCopy_ev (OkT.act b p h0 h1 hp).w) (f:=fun _=>some (1,b,[p],b != 0)) (fun k hk=>?_) (Ev.now _)⟩
  ·rw [PassIs,ps_act];exact ⟨rfl,fun hb=>by dsimp only at hb ⊢;rw [hb]⟩
  ·simp only [spec_l17Pass.f]
   rw [if_neg (by decide),if_pos (by trivial),hk,Option.bind_some]
 | wait b p h0 h1 hp ih =>
  intro _
  by_cases hb:b = 1
  ·subst hb
   refine ⟨(p.f0,p.f1,p.f2,true),?_,Ev.sb (spCopy_ev hp.w) (f:=fun _=>some (p.f0,p.f1,p.f2,true)) (fun k hk=>?_) (Ev.now _)⟩
   ·rw [PassIs,ps_wait1];exact ⟨rfl,fun _=>rfl⟩
   ·simp only [spec_l17Pass.f]
    rw [if_neg (by decide),if_neg (by decide),if_pos (by trivial),if_pos (by trivial),if_pos (by simp),show rd_T29 [p] 0 = p from rfl,hk,Option.bind_some]
  ·refine ⟨(2,b - 1,[p],true),?_,Ev.sb (spCopy_ev hp.w) (f:=fun _=>some (2,b - 1,[p],true)) (fun k hk=>?_) (Ev.now _)⟩
   ·rw [PassIs,ps_wait hb];exact ⟨rfl,fun _=>rfl⟩
   ·simp only [spec_l17Pass.f]
    rw [if_neg (by decide),if_neg (by decide),if_pos (by trivial),if_neg hb,if_pos (by simp),show rd_T29 [p] 0 = p from rfl,hk,Option.bind_some,eta29,wrap_id (by omega) (by omega)]
 | sum p q hp hq i1 i2 =>
  intro hn
  rw [nodes2] at hn
  obtain ⟨u,⟨hu,hu'⟩,e1⟩:=i1 (by omega)
  obtain ⟨v,⟨hv,hv'⟩,e2⟩:=i2 (by omega)
  by_cases c1:p.ps.2 = true
  ·by_cases c2:q.ps.2 = true
   ·have hu:=hu' c1
    have hv:=hv' c2
    subst hu hv
    refine ⟨(3,0,[p.ps.1,q.ps.1],true),?_,Ev.sb e1 (f:=fun k=>(spec_l17Pass.f k q.f0 q.f1 q.f2).bind fun bt=>if bt.2.2.2 = true then some (3,0,[p.ps.1,⟨bt.1,bt.2.1,bt.2.2.1⟩],true) else some (0,0,[],false)) (fun k hk=>?_) (Ev.cb e2 (f:=fun _=>some (3,0,[p.ps.1,q.ps.1],true)) (fun k hk=>?_) (Ev.now _))⟩
    ·rw [PassIs,ps_sum,if_pos ⟨c1,c2⟩];exact ⟨rfl,fun _=>rfl⟩
    ·simp only [spec_l17Pass.f,spec_l17Two.f,Option.bind_some]
     rw [if_neg (by decide),if_neg (by decide),if_neg (by decide),if_pos (by simp),show rd_T29 [p,q] 0 = p from rfl,show rd_T29 [p,q] 1 = q from rfl,hk,Option.bind_some,if_pos (by simp)]
     congr 1
     funext bt
     rw [if_pos (by trivial),if_neg (show ¬ ((3:Int) = 4) from by decide),eta29]
    ·rw [hk,Option.bind_some,if_pos (by trivial),eta29]
   ·have c2':q.ps.2 = false:=by simpa using c2
    refine ⟨(0,0,[],false),?_,Ev.sb e1 (f:=fun k=>(spec_l17Pass.f k q.f0 q.f1 q.f2).bind fun bt=>if bt.2.2.2 = true then some (3,0,[⟨u.1,u.2.1,u.2.2.1⟩,⟨bt.1,bt.2.1,bt.2.2.1⟩],true) else some (0,0,[],false)) (fun k hk=>?_) (Ev.cb e2 (f:=fun _=>some (0,0,[],false)) (fun k hk=>?_) (Ev.now _))⟩
    ·rw [PassIs,ps_sum,if_neg (fun h=>c2 h.2)];exact ⟨rfl,fun h=>by cases h⟩
    ·simp only [spec_l17Pass.f,spec_l17Two.f,Option.bind_some]
     rw [if_neg (by decide),if_neg (by decide),if_neg (by decide),if_pos (by simp),show rd_T29 [p,q] 0 = p from rfl,show rd_T29 [p,q] 1 = q from rfl,hk,Option.bind_some,if_pos (by simp)]
     congr 1
     funext bt
     rw [if_pos (by rw [hu,c1]),if_neg (show ¬ ((3:Int) = 4) from by decide)]
    ·rw [hk,Option.bind_some,if_neg (by rw [hv,c2'];decide)]
  ·have c1':p.ps.2 = false:=by simpa using c1
   refine ⟨(0,0,[],false),?_,Ev.sb e1 (f:=fun k=>(spec_l17Pass.f k q.f0 q.f1 q.f2).bind fun bt=>some (0,0,[],false)) (fun k hk=>?_) (Ev.cb e2 (f:=fun _=>some (0,0,[],false)) (fun k hk=>?_) (Ev.now _))⟩
   ·rw [PassIs,ps_sum,if_neg (fun h=>c1 h.1)];exact ⟨rfl,fun h=>by cases h⟩
   ·simp only [spec_l17Pass.f,spec_l17Two.f,Option.bind_some]
    rw [if_neg (by decide),if_neg (by decide),if_neg (by decide),if_pos (by simp),show rd_T29 [p,q] 0 = p from rfl,show rd_T29 [p,q] 1 = q from rfl,hk,Option.bind_some,if_pos (by simp)]
    congr 1
    funext bt
    rw [if_neg (by rw [hu,c1'];decide)]
   ·rw [hk,Option.bind_some]
 | par p q hp hq i1 i2 =>
  intro hn
  rw [nodes2] at hn
  obtain ⟨u,⟨hu,hu'⟩,e1⟩:=i1 (by omega)
  obtain ⟨v,⟨hv,hv'⟩,e2⟩:=i2 (by omega)
  have e3:=spMeet_ev hp hq (by omega) (by omega)
  by_cases c1:p.ps.2 = true
  ·by_cases c2:q.ps.2 = true
   ·have hu:=hu' c1
    have hv:=hv' c2
    subst hu hv
    refine ⟨if meets p.tk q.tk = true then (0,0,[],false) else (4,0,[p.ps.1,q.ps.1],true),?_,Ev.sb e1 (f:=fun k=>(spec_l17Pass.f k q.f0 q.f1 q.f2).bind fun bt=>if bt.2.2.2 = true then ((spec_l17Meet.f k p.f0 p.f1 p.f2 q.f0 q.f1 q.f2).bind fun t=>if t = true then some (0,0,[],false) else some (4,0,[p.ps.1,⟨bt.1,bt.2.1,bt.2.2.1⟩],true)) else some (0,0,[],false)) (fun k hk=>?_) (Ev.cb e2 (f:=fun k=>(spec_l17Meet.f k p.f0 p.f1 p.f2 q.f0 q.f1 q.f2).bind fun t=>if t = true then some (0,0,[],false) else some (4,0,[p.ps.1,q.ps.1],true)) (fun k hk=>?_) (Ev.cb e3 (f:=fun _=>some (if meets p.tk q.tk = true then (0,0,[],false) else (4,0,[p.ps.1,q.ps.1],true))) (fun k hk=>?_) (Ev.now _)))⟩
    ·by_cases c3:meets p.tk q.tk = true <;> simp [PassIs,ps_par,c1,c2,c3]
    ·simp only [spec_l17Pass.f,spec_l17Two.f,Option.bind_some]
     rw [if_neg (by decide),if_neg (by decide),if_neg (by decide),if_pos (by simp),show rd_T29 [p,q] 0 = p from rfl,show rd_T29 [p,q] 1 = q from rfl,hk,Option.bind_some,if_pos (by simp)]
     congr 1
     funext bt
     simp only [if_true,eta29]
    ·rw [hk,Option.bind_some,if_pos (by trivial),eta29]
    ·rw [hk,Option.bind_some]
     split <;> rfl
   ·have c2':q.ps.2 = false:=by simpa using c2
    refine ⟨(0,0,[],false),?_,Ev.sb e1 (f:=fun k=>(spec_l17Pass.f k q.f0 q.f1 q.f2).bind fun bt=>if bt.2.2.2 = true then ((spec_l17Meet.f k p.f0 p.f1 p.f2 q.f0 q.f1 q.f2).bind fun t=>if t = true then some (0,0,[],false) else some (4,0,[⟨u.1,u.2.1,u.2.2.1⟩,⟨bt.1,bt.2.1,bt.2.2.1⟩],true)) else some (0,0,[],false)) (fun k hk=>?_) (Ev.cb e2 (f:=fun _=>some (0,0,[],false)) (fun k hk=>?_) (Ev.now _))⟩
    ·rw [PassIs,ps_par,if_neg (fun h=>c2 h.2.1)];exact ⟨rfl,fun h=>by cases h⟩
    ·simp only [spec_l17Pass.f,spec_l17Two.f,Option.bind_some]
     rw [if_neg (by decide),if_neg (by decide),if_neg (by decide),if_pos (by simp),show rd_T29 [p,q] 0 = p from rfl,show rd_T29 [p,q] 1 = q from rfl,hk,Option.bind_some,if_pos (by simp)]
     congr 1
     funext bt
     rw [if_pos (by rw [hu,c1])]
     simp only [if_true]
    ·rw [hk,Option.bind_some,if_neg (by rw [hv,c2'];decide)]
  ·have c1':p.ps.2 = false:=by simpa using c1
   refine ⟨(0,0,[],false),?_,Ev.sb e1 (f:=fun k=>(spec_l17Pass.f k q.f0 q.f1 q.f2).bind fun bt=>some (0,0,[],false)) (fun k hk=>?_) (Ev.cb e2 (f:=fun _=>some (0,0,[],false)) (fun k hk=>?_) (Ev.now _))⟩
   ·rw [PassIs,ps_par,if_neg (fun h=>c1 h.1)];exact ⟨rfl,fun h=>by cases h⟩
   ·simp only [spec_l17Pass.f,spec_l17Two.f,Option.bind_some]
    rw [if_neg (by decide),if_neg (by decide),if_neg (by decide),if_pos (by simp),show rd_T29 [p,q] 0 = p from rfl,show rd_T29 [p,q] 1 = q from rfl,hk,Option.bind_some,if_pos (by simp)]
    congr 1
    funext bt
    rw [if_neg (by rw [hu,c1'];decide)]
   ·rw [hk,Option.bind_some]
end Go.Proofs.Ytnkgcjdlfenepaa.P
