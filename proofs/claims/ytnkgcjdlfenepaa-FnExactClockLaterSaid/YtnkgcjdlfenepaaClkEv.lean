/- What the program's functions on terms with time compute: the plain steps and the plain passing of time. No condition. -/
import Derived.Test.YtnkgcjdlfenepaaP0
import Derived.Test.YtnkgcjdlfenepaaP1
import Derived.Test.YtnkgcjdlfenepaaClk
import Derived.Test.YtnkgcjdlfenepaaHPass
namespace Go.Proofs.Ytnkgcjdlfenepaa.P
open Go.RowKit Go.Proofs.YtnkgcjdlfenepaaW.PrintWords Go.Proofs.YtnkgcjdlfenepaaW.PrintLast Go.Proofs.YtnkgcjdlfenepaaW.PrintMore Go.Proofs.Ytnkgcjdlfenepaa.Any
set_option linter.unusedVariables false
set_option linter.unusedSimpArgs false
theorem rd44_nat (xs:List S44) (i:Nat) (h:i < xs.length):rd_T44 xs (i:Int) = xs[i]:=by
 simp [rd_T44,List.getD_eq_getElem?_getD,List.getElem?_eq_getElem h]
theorem eta29 (x:S29):(⟨x.f0,x.f1,x.f2⟩:S29) = x:=by cases x;rfl
theorem take_one {α:Type} {l:List α} {i:Nat} (h:i < l.length):l.take (i + 1) = l.take i ++ [l[i]]:=by
 rw [List.take_add_one,List.getElem?_eq_getElem h]
 rfl
theorem copy_ev {x:S29} (h:W29 x):Ev (fun k=>impl_copyClock.f k x.f0 x.f1 x.f2) (x.f0,x.f1,x.f2):=by
 induction h with
 | mk a b l hl hx ih =>
  have loop:∀ (d i:Nat),i + d = l.length → Ev (fun k=>impl_copyClock.l0 k l (l.length:Int) i a b (l.take i)) (a,b,l):=by
   intro d
   induction d with
   | zero =>
    intro i hi
    refine Ev.step (fun k=>?_) (Ev.to (Ev.now (a,b,l.take i)) (by rw [List.take_of_length_le (by omega)]))
    simp only [impl_copyClock.l0]
    rw [if_neg (by omega)]
   | succ d ihd =>
    intro i hi
    have hil:i < l.length:=by omega
    refine Ev.sb (ih l[i] (List.getElem_mem hil)) (fun k hk=>?_) (ihd (i + 1) (by omega))
    simp only [impl_copyClock.l0]
    rw [if_pos (by omega),if_pos (by omega),if_pos (by omega),rd29_nat _ _ hil,hk]
    simp only [Option.bind_some]
    rw [if_pos (by rw [List.length_take];omega),wrap_succ hil (by omega),take_one hil,eta29]
  refine Ev.step (fun k=>?_) (loop l.length 0 (by omega))
  simp only [impl_copyClock.f]
  rfl
def mt (x y:S44):List S44:=if x.f0 ≠ 0∧x.f0 = -y.f0 then [⟨0,⟨4,0,[x.f1,y.f1]⟩⟩] else []
theorem mt_len (x:S44) (l:List S44):(l.flatMap (mt x)).length ≤ l.length:=by
 have:=flat_len (l:=l) (n:=1) (f:=mt x) fun y _=>by
  unfold mt
  split <;> simp
 simpa using this
theorem tkMeet_mt (X Y:List S44):tkMeet X Y = X.flatMap fun x=>Y.flatMap (mt x):=rfl
set_option linter.unusedSectionVars false
section
variable {X Y:List S44} {a b:Int} {p q:S29} {R:List S44} (hX:X.length ≤ 65536) (hY:Y.length ≤ 65536)
include hX hY
theorem tk_l3 {B:List S44} {i:Nat} (x:S44) (hy:∀ y,y ∈ Y → -4 ≤ y.f0∧y.f0 ≤ 4) (hB:B.length ≤ 10000000000) (h:Ev (fun k=>impl_ticksOf.l2 k Y (B ++ Y.flatMap (mt x)) X X.length (wrap64 ((i:Int) + 1))) R) :
  ∀ (d j:Nat),j + d = Y.length → Ev (fun k=>impl_ticksOf.l3 k Y (B ++ (Y.take j).flatMap (mt x)) X X.length i Y Y.length j x.f0 x.f1.f0 x.f1.f1 x.f1.f2) R:=by
 intro d
 induction d with
 | zero =>
  intro j hj
  refine Ev.step (fun k=>?_) h
  simp only [impl_ticksOf.l3]
  rw [if_neg (by omega),List.take_of_length_le (by omega)]
 | succ d ihd =>
  intro j hj
  have hjl:j < Y.length:=by omega
  have hm:=mt_len x (Y.take j)
  rw [List.length_take] at hm
  have hb:=hy Y[j] (List.getElem_mem hjl)
  have hn:=ihd (j + 1) (by omega)
  rw [take_one hjl,List.flatMap_append,List.flatMap_cons,List.flatMap_nil,List.append_nil,← List.append_assoc] at hn
  refine Ev.step (fun k=>?_) hn
  simp only [impl_ticksOf.l3,impl_beside.f,Option.bind_some]
  rw [if_pos (by omega),if_pos (by omega),if_pos (by omega),rd44_nat _ _ hjl,wrap_succ hjl (by omega),wrap_id (x:=-Y[j].f0) (by omega) (by omega)]
  by_cases c0:x.f0 = 0
  ·rw [if_pos c0,show mt x Y[j] = [] by simp [mt,c0],List.append_nil]
  ·rw [if_neg c0]
   by_cases c1:x.f0 = -Y[j].f0
   ·rw [if_pos c1,if_pos (by rw [List.length_append];omega)]
    rw [show mt x Y[j] = [⟨0,⟨4,0,[x.f1,Y[j].f1]⟩⟩] by unfold mt;rw [if_pos ⟨c0,c1⟩],eta29,eta29]
   ·rw [if_neg c1,show mt x Y[j] = [] by unfold mt;rw [if_neg (fun h=>c1 h.2)],List.append_nil]
theorem tk_l2 {B:List S44} (hy:∀ y,y ∈ Y → -4 ≤ y.f0∧y.f0 ≤ 4) (hB:B.length ≤ 200000) :
  ∀ (d i:Nat),i + d = X.length → Ev (fun k=>impl_ticksOf.l2 k Y (B ++ (X.take i).flatMap fun x=>Y.flatMap (mt x)) X X.length i) (B ++ tkMeet X Y):=by
 intro d
 induction d with
 | zero =>
  intro i hi
  refine Ev.step (fun k=>?_) (Ev.to (Ev.now (B ++ (X.take i).flatMap fun x=>Y.flatMap (mt x))) (by rw [List.take_of_length_le (by omega),tkMeet_mt]))
  simp only [impl_ticksOf.l2]
  rw [if_neg (by omega)]
 | succ d ihd =>
  intro i hi
  have hil:i < X.length:=by omega
  have hn:=ihd (i + 1) (by omega)
  rw [take_one hil,List.flatMap_append,List.flatMap_cons,List.flatMap_nil,List.append_nil,← List.append_assoc,← wrap_succ hil (by omega)] at hn
  have hf:=flat_len (l:=X.take i) (n:=Y.length) (f:=fun x=>Y.flatMap (mt x)) fun y _=>mt_len y Y
  rw [List.length_take] at hf
  have h2:min i X.length * Y.length ≤ 65536 * 65536:=Nat.mul_le_mul (by omega) hY
  have h3:=tk_l3 hX hY (R:=B ++ tkMeet X Y) (B:=B ++ (X.take i).flatMap fun x=>Y.flatMap (mt x)) (i:=i) X[i] hy (by rw [List.length_append];omega) hn Y.length 0 (by omega)
  rw [List.take_zero,List.flatMap_nil,List.append_nil] at h3
  refine Ev.step (fun k=>?_) h3
  simp only [impl_ticksOf.l2]
  rw [if_pos (by omega),if_pos (by omega),if_pos (by omega),rd44_nat _ _ hil]
  rfl
theorem tk_l1 {B:List S44} (hB:B.length ≤ 65536) (h:Ev (fun k=>impl_ticksOf.l2 k Y (B ++ Y.map fun y=>⟨y.f0,⟨4,0,[p,y.f1]⟩⟩) X X.length 0) R) :
  ∀ (d i:Nat),i + d = Y.length → Ev (fun k=>impl_ticksOf.l1 k X Y (B ++ (Y.take i).map fun y=>⟨y.f0,⟨4,0,[p,y.f1]⟩⟩) Y Y.length i a b [p,q]) R:=by
 intro d
 induction d with
 | zero =>
  intro i hi
  refine Ev.step (fun k=>?_) h
  simp only [impl_ticksOf.l1]
  rw [if_neg (by omega),List.take_of_length_le (by omega)]
 | succ d ihd =>
  intro i hi
  have hil:i < Y.length:=by omega
  have hn:=ihd (i + 1) (by omega)
  rw [take_one hil,List.map_append,← List.append_assoc] at hn
  refine Ev.step (fun k=>?_) hn
  simp only [impl_ticksOf.l1,impl_beside.f,Option.bind_some]
  rw [if_pos (by omega),if_pos (by omega),if_pos (by omega),if_pos (by simp),if_pos (by rw [List.length_append,List.length_map,List.length_take];omega),rd44_nat _ _ hil,wrap_succ hil (by omega),show rd_T29 [p,q] 0 = p from rfl,eta29,eta29]
  rfl
theorem tk_l0 (h:Ev (fun k=>impl_ticksOf.l1 k X Y (X.map fun x=>⟨x.f0,⟨4,0,[x.f1,q]⟩⟩) Y Y.length 0 a b [p,q]) R) :
  ∀ (d i:Nat),i + d = X.length → Ev (fun k=>impl_ticksOf.l0 k X Y ((X.take i).map fun x=>⟨x.f0,⟨4,0,[x.f1,q]⟩⟩) X X.length i a b [p,q]) R:=by
 intro d
 induction d with
 | zero =>
  intro i hi
  refine Ev.step (fun k=>?_) h
  simp only [impl_ticksOf.l0]
  rw [if_neg (by omega),List.take_of_length_le (by omega)]
 | succ d ihd =>
  intro i hi
  have hil:i < X.length:=by omega
  have hn:=ihd (i + 1) (by omega)
  rw [take_one hil,List.map_append] at hn
  refine Ev.step (fun k=>?_) hn
  simp only [impl_ticksOf.l0,impl_beside.f,Option.bind_some]
  rw [if_pos (by omega),if_pos (by omega),if_pos (by omega),if_pos (by simp),if_pos (by rw [List.length_map,List.length_take];omega),rd44_nat _ _ hil,wrap_succ hil (by omega),show rd_T29 [p,q] 1 = q from rfl,eta29,eta29]
  rfl
theorem tk_par_ev (hy:∀ y,y ∈ Y → -4 ≤ y.f0∧y.f0 ≤ 4):Ev (fun k=>impl_ticksOf.l0 k X Y ([]:List S44) X X.length 0 a b [p,q]) (tkPar p q X Y):=by
 have h2:=tk_l2 hX hY (B:=(X.map fun x=>⟨x.f0,⟨4,0,[x.f1,q]⟩⟩) ++ (Y.map fun y=>⟨y.f0,⟨4,0,[p,y.f1]⟩⟩)) hy (by rw [List.length_append,List.length_map,List.length_map];omega) X.length 0 (by omega)
 rw [List.take_zero,List.flatMap_nil,List.append_nil] at h2
 have h1:=tk_l1 hX hY (a:=a) (b:=b) (p:=p) (q:=q) (R:=tkPar p q X Y) (B:=X.map fun x=>⟨x.f0,⟨4,0,[x.f1,q]⟩⟩) (by rw [List.length_map];exact hX) h2 Y.length 0 (by omega)
 rw [List.take_zero,List.map_nil,List.append_nil] at h1
 exact tk_l0 hX hY h1 X.length 0 (by omega)
end
theorem tk_small {x:S29} (h:OkT x) (hn:x.nodes ≤ 16):x.tk.length ≤ 65535:=by
 have h1:=tk_len h
 have h2:2 ^ x.nodes ≤ 2 ^ 16:=Nat.pow_le_pow_right (by omega) hn
 omega
theorem nodes2 (a b:Int) (p q:S29):(S29.mk a b [p,q]).nodes = 1 + (p.nodes + q.nodes):=by simp [S29.nodes,nodesL]
theorem ticks_ev {x:S29} (h:OkT x):x.nodes ≤ 16 → Ev (fun k=>impl_ticksOf.f k x.f0 x.f1 x.f2) x.tk:=by
 induction h with
 | nil =>
  intro _
  rw [tk_nil]
  refine Ev.step (fun k=>?_) (Ev.now [])
  simp only [impl_ticksOf.f]
  rw [if_neg (by decide),if_neg (by decide),if_neg (by decide)]
 | act b p h0 h1 hp ih =>
  intro _
  rw [tk_act]
  refine Ev.step (fun k=>?_) (Ev.now ([⟨b,p⟩]:List S44))
  simp only [impl_ticksOf.f]
  rw [if_pos (by trivial),if_pos (by simp),show rd_T29 [p] 0 = p from rfl,eta29]
 | wait b p h0 h1 hp ih =>
  intro _
  rw [tk_wait]
  refine Ev.step (fun k=>?_) (Ev.now [])
  simp only [impl_ticksOf.f]
  rw [if_neg (by decide),if_neg (by decide),if_neg (by decide)]
 | sum p q hp hq i1 i2 =>
  intro hn
  rw [nodes2] at hn
  rw [tk_sum]
  have s1:=tk_small hp (by omega)
  have s2:=tk_small hq (by omega)
  refine Ev.sb (i1 (by omega)) (f:=fun k=>(impl_ticksOf.f k q.f0 q.f1 q.f2).bind fun t=>if p.tk.length + t.length < 2932031007402 then some (p.tk ++ t) else none) (fun k hk=>?_) (Ev.cb (i2 (by omega)) (f:=fun _=>some (p.tk ++ q.tk)) (fun k hk=>?_) (Ev.now _))
  ·simp only [impl_ticksOf.f]
   rw [if_neg (by decide),if_pos (by trivial),if_pos (by simp),show rd_T29 [p,q] 0 = p from rfl,show rd_T29 [p,q] 1 = q from rfl,hk,Option.bind_some,if_pos (by simp)]
  ·rw [hk,Option.bind_some,if_pos (by omega)]
 | par p q hp hq i1 i2 =>
  intro hn
  rw [nodes2] at hn
  rw [tk_par]
  have s1:=tk_small hp (by omega)
  have s2:=tk_small hq (by omega)
  refine Ev.sb (i1 (by omega)) (f:=fun k=>(impl_ticksOf.f k q.f0 q.f1 q.f2).bind fun t=>impl_ticksOf.l0 k p.tk t ([]:List S44) p.tk p.tk.length 0 4 0 [p,q]) (fun k hk=>?_) (Ev.cb (i2 (by omega)) (fun k hk=>?_) (tk_par_ev (X:=p.tk) (Y:=q.tk) (a:=4) (b:=0) (p:=p) (q:=q) (by omega) (by omega) (tk_act_in hq)))
  ·simp only [impl_ticksOf.f]
   rw [if_neg (by decide),if_neg (by decide),if_pos (by trivial),if_pos (by simp),show rd_T29 [p,q] 0 = p from rfl,show rd_T29 [p,q] 1 = q from rfl,hk,Option.bind_some,if_pos (by simp)]
  ·rw [hk,Option.bind_some]
theorem partner_eq (a:Int):∀ l:List S44,(∀ y,y ∈ l → -4 ≤ y.f0∧y.f0 ≤ 4) → impl_partner.f l a = some (l.any fun y=>a == -y.f0)
 | [],_=>rfl
 | y :: l,h=>by
  have hy:=h y (List.mem_cons_self ..)
  have ih:=partner_eq a l fun z hz=>h z (List.mem_cons_of_mem _ hz)
  unfold impl_partner.f at ih ⊢
  rw [anyOf,Option.bind_some,wrap_id (x:=-y.f0) (by omega) (by omega),List.any_cons]
  cases hc:(a == -y.f0) with
  | true=>rw [if_pos rfl,Bool.true_or]
  | false=>rw [if_neg (by simp),ih,Bool.false_or]
theorem meets_drop {X Y:List S44} {i:Nat} (h:i < X.length):meets (X.drop i) Y = ((X[i].f0 != 0 && Y.any fun y=>X[i].f0 == -y.f0) || meets (X.drop (i + 1)) Y):=by
 unfold meets
 rw [List.drop_eq_getElem_cons h,List.any_cons]
end Go.Proofs.Ytnkgcjdlfenepaa.P
