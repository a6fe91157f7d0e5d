/- Trees of a kind, a number and parts, that come in: how they read, how many nodes they have, what their copies are. No condition. -/
import Derived.Test.YtbcjpdahdecehaaDoorP0
import Derived.Test.YtbcjpdahdecehaaDoorP2
import Derived.Test.YtbcjpdahdecehaaDoorOpen
import Derived.Test.YtbcjpdahdecehaaDoorSB
namespace Go.Proofs.YtbcjpdahdecehaaDoor.P
open Go.RowKit Go.Proofs.YtbcjpdahdecehaaDoorW.PrintWords Go.Proofs.YtbcjpdahdecehaaDoorW.PrintLast Go.Proofs.YtbcjpdahdecehaaDoor.Open
set_option linter.unusedVariables false
theorem rd33_nat (xs:List S33) (i:Nat) (h:i < xs.length):rd_T33 xs (i:Int) = xs[i]:=by
 simp [rd_T33,List.getD_eq_getElem?_getD,List.getElem?_eq_getElem h]
inductive Good33:S33 → Prop where
 | mk (a b:Int) (l:List S33) (ha:(Lit.int .i64 a).wf = true) (hb:(Lit.int .i64 b).wf = true) (hl:l.length ≤ maxLen) (hx:∀ y,y ∈ l → Good33 y):Good33 ⟨a,b,l⟩
theorem opens33 (n:Nat):OpensAt Tryd.prog 33 k33 Good33 n:=by
 induction n using Nat.strongRecOn with
 | _ n ih =>
  have h3:=opens_pair3 (P:=Tryd.prog) (n:=n) Tryd.underlying33 (by kernel_rfl) rfl rfl rfl (by kernel_rfl) (by kernel_rfl) (by kernel_rfl)
   (fun m _=>opens_int Tryd.underlying3) (fun m _=>opens_int Tryd.underlying3) (fun m hm=>opens_slice (d:=k33) (g:=Good33) Tryd.underlying31 (by kernel_rfl) (fun j hj=>ih j (by omega)))
  intro H enc w cs x hx
  obtain ⟨⟨a,b,l⟩,hK,ha,hb,hl,hg⟩:=h3 H enc w cs x hx
  obtain ⟨c0,c12,rfl,rfl,c1,c2,rfl,rfl,⟨A,c,rfl,hlen,hC⟩⟩:=hK
  exact ⟨⟨a,b,l⟩,k33_mk w ⟨a,b,l⟩ hlen hC,.mk a b l ha hb hl hg⟩
theorem opens31 (n:Nat):OpensAt Tryd.prog 31 (Kd.slice 33 k33) (fun xs=>xs.length ≤ maxLen∧∀ a ∈ xs,Good33 a) n :=
 opens_slice Tryd.underlying31 (by kernel_rfl) (fun m _=>opens33 m)
mutual
def S33.cnt:S33 → Nat
 | ⟨_,_,l⟩=>l.length + subL l
def subL:List S33 → Nat
 | []=>0
 | x :: xs=>S33.cnt x + subL xs
end
theorem subL_drop {l:List S33} {i:Nat} (h:i < l.length):subL (l.drop i) = l[i].cnt + subL (l.drop (i + 1)):=by
 rw [List.drop_eq_getElem_cons h,subL]
theorem cnt_le_subL:∀ {l:List S33} {x:S33},x ∈ l → x.cnt ≤ subL l
 | y :: l,x,h=>by
  rw [subL]
  rcases List.mem_cons.1 h with rfl | h
  ·omega
  ·have:=cnt_le_subL h
   omega
theorem szS_of {l:List S33} (hl:l.length ≤ maxLen) (ih:∀ y,y ∈ l → ∀ left:Int,0 ≤ left → left ≤ 1048576 → Ev (fun k=>laws_szSeal.f k y.f0 y.f1 y.f2 left) (if (y.cnt:Int) ≤ left then left - y.cnt else -1)) (left:Int) (h0:0 ≤ left) (h1:left ≤ 1048576) :
  Ev (fun k=>laws_szSealS.f k l left) (if ((l.length + subL l:Nat):Int) ≤ left then left - (l.length + subL l:Nat) else -1):=by
 have hm:l.length ≤ 9223372036854775807:=by simp only [maxLen] at hl;omega
 have loop:∀ (d i:Nat) (left:Int),i + d = l.length → 0 ≤ left → left ≤ 1048576 → Ev (fun k=>laws_szSealS.l0 k l left i) (if (subL (l.drop i):Int) ≤ left then left - subL (l.drop i) else -1):=by
  intro d
  induction d with
  | zero =>
   intro i left hi h0 h1
   rw [List.drop_eq_nil_of_le (by omega)]
   refine Ev.step (fun k=>?_) (Ev.to (Ev.now left) (by simp [subL,h0]))
   simp only [laws_szSealS.l0]
   rw [if_neg (by omega)]
  | succ d ihd =>
   intro i left hi h0 h1
   have hil:i < l.length:=by omega
   have hx:=ih l[i] (List.getElem_mem hil) left h0 h1
   rw [subL_drop hil]
   by_cases hc:(l[i].cnt:Int) ≤ left
   ·rw [if_pos hc] at hx
    refine Ev.sb hx (fun k hk=>?_) (Ev.to (ihd (i + 1) (left - l[i].cnt) (by omega) (by omega) (by omega)) ?_)
    ·unfold laws_szSeal.f at hk
     simp only [laws_szSealS.l0]
     rw [if_pos (by omega),if_pos (by omega),rd33_nat _ _ hil,hk]
     simp only [Option.bind_some]
     rw [if_neg (by omega),wrap_succ hil hm]
    ·by_cases h2:(subL (l.drop (i + 1)):Int) ≤ left - l[i].cnt
     ·rw [if_pos h2,if_pos (by omega)]
      omega
     ·rw [if_neg h2,if_neg (by omega)]
   ·rw [if_neg hc] at hx
    refine Ev.sb hx (fun k hk=>?_) (Ev.to (Ev.now (-1)) (by rw [if_neg (by omega)]))
    unfold laws_szSeal.f at hk
    simp only [laws_szSealS.l0]
    rw [if_pos (by omega),if_pos (by omega),rd33_nat _ _ hil,hk]
    simp only [Option.bind_some]
    rw [if_pos (by omega)]
 by_cases hc:(l.length:Int) ≤ left
 ·refine Ev.step (fun k=>?_) (Ev.to (loop l.length 0 (left - l.length) (by omega) (by omega) (by omega)) ?_)
  ·simp only [laws_szSealS.f]
   rw [wrap_id (by omega) (by omega),if_neg (by omega)]
   rfl
  ·rw [List.drop_zero]
   by_cases h2:(subL l:Int) ≤ left - l.length
   ·rw [if_pos h2,if_pos (by omega)]
    omega
   ·rw [if_neg h2,if_neg (by omega)]
 ·refine Ev.step (fun k=>?_) (Ev.to (Ev.now (-1)) (by rw [if_neg (by omega)]))
  simp only [laws_szSealS.f]
  rw [wrap_id (by omega) (by omega),if_pos (by omega)]
theorem sz_ev {x:S33} (h:Good33 x):∀ left:Int,0 ≤ left → left ≤ 1048576 → Ev (fun k=>laws_szSeal.f k x.f0 x.f1 x.f2 left) (if (x.cnt:Int) ≤ left then left - x.cnt else -1):=by
 induction h with
 | mk a b l ha hb hl hx ih =>
  intro left h0 h1
  have hs:=szS_of hl ih left h0 h1
  have hc:(S33.mk a b l).cnt = l.length + subL l:=by rw [S33.cnt]
  rw [hc]
  refine Ev.cb hs (fun k hk=>?_) (Ev.now _)
  simp only [laws_szSeal.f,laws_szSeal.body,hk,Option.bind_some]
  by_cases h2:((l.length + subL l:Nat):Int) ≤ left
  ·rw [if_pos h2,if_neg (by omega)]
  ·rw [if_neg h2,if_pos (by omega)]
mutual
def S33.conv:S33 → S25
 | ⟨a,b,l⟩=>⟨a,b,convL l⟩
def convL:List S33 → List S25
 | []=>[]
 | x :: xs=>S33.conv x :: convL xs
end
theorem convL_map:∀ l:List S33,convL l = l.map S33.conv
 | []=>rfl
 | x :: xs=>by rw [convL,convL_map xs];rfl
theorem conv_f0 (x:S33):x.conv.f0 = x.f0:=by cases x;rw [S33.conv]
theorem conv_f1 (x:S33):x.conv.f1 = x.f1:=by cases x;rw [S33.conv]
theorem conv_f2 (x:S33):x.conv.f2 = convL x.f2:=by cases x;rw [S33.conv]
theorem conv_eta (x:S33):(⟨x.f0,x.f1,convL x.f2⟩:S25) = x.conv:=by cases x;rw [S33.conv]
theorem toS_of {l:List S33} (hl:l.length ≤ 1048576) (ih:∀ y,y ∈ l → Ev (fun k=>laws_toSeal.f k y.f0 y.f1 y.f2) (y.f0,y.f1,convL y.f2)):Ev (fun k=>laws_toSealS.f k l) (convL l):=by
 rw [convL_map]
 have loop:∀ (d i:Nat) (ys:List S25),i + d = l.length → ys.length = l.length → (∀ j,j < i → ys[j]? = (l.map S33.conv)[j]?) → Ev (fun k=>laws_toSealS.l0 k l ys i) (l.map S33.conv):=by
  intro d
  induction d with
  | zero =>
   intro i ys hi hy hj
   have:ys = l.map S33.conv:=List.ext_getElem? fun j=>by
    rcases Nat.lt_or_ge j i with h | h
    ·exact hj j h
    ·rw [List.getElem?_eq_none (by omega),List.getElem?_eq_none (by rw [List.length_map];omega)]
   rw [← this]
   refine Ev.step (fun k=>?_) (Ev.now ys)
   simp only [laws_toSealS.l0]
   rw [if_neg (by omega)]
  | succ d ihd =>
   intro i ys hi hy hj
   have hil:i < l.length:=by omega
   refine Ev.sb (ih l[i] (List.getElem_mem hil)) (fun k hk=>?_) (ihd (i + 1) (ys.set i l[i].conv) (by omega) (by rw [List.length_set,hy]) (fun j hjj=>?_))
   ·unfold laws_toSeal.f at hk
    simp only [laws_toSealS.l0]
    rw [if_pos (by omega),if_pos (by omega),rd33_nat _ _ hil,hk]
    simp only [Option.bind_some]
    rw [if_pos (by omega),wrap_succ hil (by omega),conv_eta]
    rfl
   ·by_cases h:j = i
    ·subst h
     rw [List.getElem?_set_self (by omega),List.getElem?_map,List.getElem?_eq_getElem hil]
     rfl
    ·rw [List.getElem?_set_ne (Ne.symm h)]
     exact hj j (by omega)
 refine Ev.step (fun k=>?_) (loop l.length 0 (List.replicate l.length z25) (by omega) (by simp) (fun j hj=>by omega))
 simp only [laws_toSealS.f]
 rw [if_pos (by omega),if_pos (by omega)]
 rfl
theorem to_ev {x:S33} (h:Good33 x):x.cnt ≤ 1048576 → Ev (fun k=>laws_toSeal.f k x.f0 x.f1 x.f2) (x.f0,x.f1,convL x.f2):=by
 induction h with
 | mk a b l ha hb hl hx ih =>
  intro hc
  have hc':(S33.mk a b l).cnt = l.length + subL l:=by rw [S33.cnt]
  rw [hc'] at hc
  have hs:=toS_of (l:=l) (by omega) (fun y hy=>ih y hy (by have:=cnt_le_subL hy;omega))
  exact Ev.cb hs (fun k hk=>by simp only [laws_toSeal.f,laws_toSeal.body,hk,Option.bind_some]) (Ev.now _)
theorem conv_W {x:S33} (h:Good33 x):x.cnt ≤ 1048576 → W25 x.conv:=by
 induction h with
 | mk a b l ha hb hl hx ih =>
  intro hc
  have hc':(S33.mk a b l).cnt = l.length + subL l:=by rw [S33.cnt]
  rw [hc'] at hc
  rw [S33.conv,convL_map]
  refine .mk a b _ (by rw [List.length_map];omega) (fun y hy=>?_)
  obtain ⟨z,hz,rfl⟩:=List.mem_map.1 hy
  exact ih z hz (by have:=cnt_le_subL hz;omega)
theorem eqS_of {l:List S25} (hl:l.length ≤ 1048576) (ih:∀ y,y ∈ l → Ev (fun k=>laws_eqSeal.f k y.f0 y.f1 y.f2 y.f0 y.f1 y.f2) true):Ev (fun k=>laws_eqSealS.f k l l) true:=by
 have loop:∀ (d i:Nat),i + d = l.length → Ev (fun k=>laws_eqSealS.l0 k l l i) true:=by
  intro d
  induction d with
  | zero =>
   intro i hi
   refine Ev.step (fun k=>?_) (Ev.now true)
   simp only [laws_eqSealS.l0]
   rw [if_neg (by omega)]
  | succ d ihd =>
   intro i hi
   have hil:i < l.length:=by omega
   refine Ev.sb (ih l[i] (List.getElem_mem hil)) (fun k hk=>?_) (ihd (i + 1) (by omega))
   unfold laws_eqSeal.f at hk
   simp only [laws_eqSealS.l0]
   rw [if_pos (by omega),if_pos (by omega),if_pos (by omega),rd25_nat _ _ hil,hk]
   simp only [Option.bind_some]
   rw [if_pos (by trivial),wrap_succ hil (by omega)]
 refine Ev.step (fun k=>?_) (loop l.length 0 (by omega))
 simp only [laws_eqSealS.f]
 rw [if_pos (by trivial)]
 rfl
theorem eq_ev {x:S25} (h:W25 x):Ev (fun k=>laws_eqSeal.f k x.f0 x.f1 x.f2 x.f0 x.f1 x.f2) true:=by
 induction h with
 | mk a b l hl hx ih =>
  refine Ev.cb (eqS_of hl ih) (fun k hk=>?_) (Ev.now true)
  simp only [laws_eqSeal.f,laws_eqSeal.body,if_true,hk,Option.bind_some]
end Go.Proofs.YtbcjpdahdecehaaDoor.P
