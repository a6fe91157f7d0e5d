/- Trees of a kind, a number and parts, that come in: how they read, how many nodes they have, what their copies are. No condition. -/
import Derived.Test.YtnkgcjdlfenepaaP0
import Derived.Test.YtnkgcjdlfenepaaP2
import Derived.Test.YtnkgcjdlfenepaaOpen
namespace Go.Proofs.Ytnkgcjdlfenepaa.P
open Go.RowKit Go.Proofs.YtnkgcjdlfenepaaW.PrintWords Go.Proofs.YtnkgcjdlfenepaaW.PrintLast Go.Proofs.Ytnkgcjdlfenepaa.Open
set_option linter.unusedVariables false
theorem Ev.to {α:Type} {g:Nat → Option α} {r r':α} (h:Ev g r) (e:r = r'):Ev g r':=e ▸ h
theorem Ev.sb {α β:Type} {g f:Nat → Option β} {p:Nat → Option α} {a:α} {r:β} (hp:Ev p a) (h:∀ k,p k = some a → g (k + 1) = f k) (hf:Ev f r):Ev g r:=by
 obtain ⟨K,hp⟩:=hp
 obtain ⟨K',hf⟩:=hf
 refine ⟨K + K' + 1,fun n hn=>?_⟩
 obtain ⟨m,rfl⟩:∃ m,n = m + 1:=⟨n - 1,by omega⟩
 rw [h m (hp m (by omega))]
 exact hf m (by omega)
theorem Ev.cb {α β:Type} {g f:Nat → Option β} {p:Nat → Option α} {a:α} {r:β} (hp:Ev p a) (h:∀ k,p k = some a → g k = f k) (hf:Ev f r):Ev g r:=by
 obtain ⟨K,hp⟩:=hp
 obtain ⟨K',hf⟩:=hf
 refine ⟨K + K',fun n hn=>?_⟩
 rw [h n (hp n (by omega))]
 exact hf n (by omega)
theorem wrap_id {x:Int} (h0:-9223372036854775808 ≤ x) (h1:x ≤ 9223372036854775807):wrap64 x = x:=by
 unfold wrap64
 omega
theorem wrap_succ {i n:Nat} (h:i < n) (hn:n ≤ 9223372036854775807):wrap64 ((i:Int) + 1) = ((i + 1:Nat):Int):=by
 rw [wrap_id (by omega) (by omega)]
 rfl
theorem rd24_nat (xs:List S24) (i:Nat) (h:i < xs.length):rd_T24 xs (i:Int) = xs[i]:=by
 simp [rd_T24,List.getD_eq_getElem?_getD,List.getElem?_eq_getElem h]
theorem rd29_nat (xs:List S29) (i:Nat) (h:i < xs.length):rd_T29 xs (i:Int) = xs[i]:=by
 simp [rd_T29,List.getD_eq_getElem?_getD,List.getElem?_eq_getElem h]
inductive Good24:S24 → Prop where
 | mk (a b:Int) (l:List S24) (ha:(Lit.int .i64 a).wf = true) (hb:(Lit.int .i64 b).wf = true) (hl:l.length ≤ maxLen) (hx:∀ y,y ∈ l → Good24 y):Good24 ⟨a,b,l⟩
theorem opens24 (n:Nat):OpensAt Try.prog 24 k24 Good24 n:=by
 induction n using Nat.strongRecOn with
 | _ n ih =>
  have h3:=opens_pair3 (P:=Try.prog) (n:=n) Try.underlying24 (by kernel_rfl) rfl rfl rfl (by kernel_rfl) (by kernel_rfl) (by kernel_rfl)
   (fun m _=>opens_int Try.underlying3) (fun m _=>opens_int Try.underlying3) (fun m hm=>opens_slice (d:=k24) (g:=Good24) Try.underlying22 (by kernel_rfl) (fun j hj=>ih j (by omega)))
  intro H enc w cs x hx
  obtain ⟨⟨a,b,l⟩,hK,ha,hb,hl,hg⟩:=h3 H enc w cs x hx
  obtain ⟨c0,c12,rfl,rfl,c1,c2,rfl,rfl,⟨A,c,rfl,hlen,hC⟩⟩:=hK
  exact ⟨⟨a,b,l⟩,k24_mk w ⟨a,b,l⟩ hlen hC,.mk a b l ha hb hl hg⟩
mutual
def S24.cnt:S24 → Nat
 | ⟨_,_,l⟩=>l.length + subL l
def subL:List S24 → Nat
 | []=>0
 | x :: xs=>S24.cnt x + subL xs
end
theorem subL_drop {l:List S24} {i:Nat} (h:i < l.length):subL (l.drop i) = l[i].cnt + subL (l.drop (i + 1)):=by
 rw [List.drop_eq_getElem_cons h,subL]
theorem cnt_le_subL:∀ {l:List S24} {x:S24},x ∈ l → x.cnt ≤ subL l
 | y :: l,x,h=>by
  rw [subL]
  rcases List.mem_cons.1 h with rfl | h
  ·omega
  ·have:=cnt_le_subL h
   omega
theorem szS_of {l:List S24} (hl:l.length ≤ maxLen) (ih:∀ y,y ∈ l → ∀ left:Int,0 ≤ left → left ≤ 1048576 → Ev (fun k=>laws_szClock.f k y.f0 y.f1 y.f2 left) (if (y.cnt:Int) ≤ left then left - y.cnt else -1)) (left:Int) (h0:0 ≤ left) (h1:left ≤ 1048576) :
  Ev (fun k=>laws_szClockS.f k l left) (if ((l.length + subL l:Nat):Int) ≤ left then left - (l.length + subL l:Nat) else -1):=by
 have hm:l.length ≤ 9223372036854775807:=by simp only [maxLen] at hl;omega
 have loop:∀ (d i:Nat) (left:Int),i + d = l.length → 0 ≤ left → left ≤ 1048576 → Ev (fun k=>laws_szClockS.l0 k l left i) (if (subL (l.drop i):Int) ≤ left then left - subL (l.drop i) else -1):=by
  intro d
  induction d with
  | zero =>
   intro i left hi h0 h1
   rw [List.drop_eq_nil_of_le (by omega)]
   refine Ev.step (fun k=>?_) (Ev.to (Ev.now left) (by simp [subL,h0]))
   simp only [laws_szClockS.l0]
   rw [if_neg (by omega)]
  | succ d ihd =>
   intro i left hi h0 h1
   have hil:i < l.length:=by omega
   have hx:=ih l[i] (List.getElem_mem hil) left h0 h1
   rw [subL_drop hil]
   by_cases hc:(l[i].cnt:Int) ≤ left
   ·rw [if_pos hc] at hx
    refine Ev.sb hx (fun k hk=>?_) (Ev.to (ihd (i + 1) (left - l[i].cnt) (by omega) (by omega) (by omega)) ?_)
    ·unfold laws_szClock.f at hk
     simp only [laws_szClockS.l0]
     rw [if_pos (by omega),if_pos (by omega),rd24_nat _ _ hil,hk]
     simp only [Option.bind_some]
     rw [if_neg (by omega),wrap_succ hil hm]
    ·by_cases h2:(subL (l.drop (i + 1)):Int) ≤ left - l[i].cnt
     ·rw [if_pos h2,if_pos (by omega)]
      omega
     ·rw [if_neg h2,if_neg (by omega)]
   ·rw [if_neg hc] at hx
    refine Ev.sb hx (fun k hk=>?_) (Ev.to (Ev.now (-1)) (by rw [if_neg (by omega)]))
    unfold laws_szClock.f at hk
    simp only [laws_szClockS.l0]
    rw [if_pos (by omega),if_pos (by omega),rd24_nat _ _ hil,hk]
    simp only [Option.bind_some]
    rw [if_pos (by omega)]
 by_cases hc:(l.length:Int) ≤ left
 ·refine Ev.step (fun k=>?_) (Ev.to (loop l.length 0 (left - l.length) (by omega) (by omega) (by omega)) ?_)
  ·simp only [laws_szClockS.f]
   rw [wrap_id (by omega) (by omega),if_neg (by omega)]
   rfl
  ·rw [List.drop_zero]
   by_cases h2:(subL l:Int) ≤ left - l.length
   ·rw [if_pos h2,if_pos (by omega)]
    omega
   ·rw [if_neg h2,if_neg (by omega)]
 ·refine Ev.step (fun k=>?_) (Ev.to (Ev.now (-1)) (by rw [if_neg (by omega)]))
  simp only [laws_szClockS.f]
  rw [wrap_id (by omega) (by omega),if_pos (by omega)]
theorem sz_ev {x:S24} (h:Good24 x):∀ left:Int,0 ≤ left → left ≤ 1048576 → Ev (fun k=>laws_szClock.f k x.f0 x.f1 x.f2 left) (if (x.cnt:Int) ≤ left then left - x.cnt else -1):=by
 induction h with
 | mk a b l ha hb hl hx ih =>
  intro left h0 h1
  have hs:=szS_of hl ih left h0 h1
  have hc:(S24.mk a b l).cnt = l.length + subL l:=by rw [S24.cnt]
  rw [hc]
  refine Ev.cb hs (fun k hk=>?_) (Ev.now _)
  simp only [laws_szClock.f,laws_szClock.body,hk,Option.bind_some]
  by_cases h2:((l.length + subL l:Nat):Int) ≤ left
  ·rw [if_pos h2,if_neg (by omega)]
  ·rw [if_neg h2,if_pos (by omega)]
mutual
def S24.conv:S24 → S29
 | ⟨a,b,l⟩=>⟨a,b,convL l⟩
def convL:List S24 → List S29
 | []=>[]
 | x :: xs=>S24.conv x :: convL xs
end
theorem convL_map:∀ l:List S24,convL l = l.map S24.conv
 | []=>rfl
 | x :: xs=>by rw [convL,convL_map xs];rfl
theorem conv_f0 (x:S24):x.conv.f0 = x.f0:=by cases x;rw [S24.conv]
theorem conv_f1 (x:S24):x.conv.f1 = x.f1:=by cases x;rw [S24.conv]
theorem conv_f2 (x:S24):x.conv.f2 = convL x.f2:=by cases x;rw [S24.conv]
theorem conv_eta (x:S24):(⟨x.f0,x.f1,convL x.f2⟩:S29) = x.conv:=by cases x;rw [S24.conv]
theorem toS_of {l:List S24} (hl:l.length ≤ 1048576) (ih:∀ y,y ∈ l → Ev (fun k=>laws_toClock.f k y.f0 y.f1 y.f2) (y.f0,y.f1,convL y.f2)):Ev (fun k=>laws_toClockS.f k l) (convL l):=by
 rw [convL_map]
 have loop:∀ (d i:Nat) (ys:List S29),i + d = l.length → ys.length = l.length → (∀ j,j < i → ys[j]? = (l.map S24.conv)[j]?) → Ev (fun k=>laws_toClockS.l0 k l ys i) (l.map S24.conv):=by
  intro d
  induction d with
  | zero =>
   intro i ys hi hy hj
   have:ys = l.map S24.conv:=List.ext_getElem? fun j=>by
    rcases Nat.lt_or_ge j i with h | h
    ·exact hj j h
    ·rw [List.getElem?_eq_none (by omega),List.getElem?_eq_none (by rw [List.length_map];omega)]
   rw [← this]
   refine Ev.step (fun k=>?_) (Ev.now ys)
   simp only [laws_toClockS.l0]
   rw [if_neg (by omega)]
  | succ d ihd =>
   intro i ys hi hy hj
   have hil:i < l.length:=by omega
   refine Ev.sb (ih l[i] (List.getElem_mem hil)) (fun k hk=>?_) (ihd (i + 1) (ys.set i l[i].conv) (by omega) (by rw [List.length_set,hy]) (fun j hjj=>?_))
   ·unfold laws_toClock.f at hk
    simp only [laws_toClockS.l0]
    rw [if_pos (by omega),if_pos (by omega),rd24_nat _ _ hil,hk]
    simp only [Option.bind_some]
    rw [if_pos (by omega),wrap_succ hil (by omega),conv_eta]
    rfl
   ·by_cases h:j = i
    ·subst h
     rw [List.getElem?_set_self (by omega),List.getElem?_map,List.getElem?_eq_getElem hil]
     rfl
    ·rw [List.getElem?_set_ne (Ne.symm h)]
     exact hj j (by omega)
 refine Ev.step (fun k=>?_) (loop l.length 0 (List.replicate l.length z29) (by omega) (by simp) (fun j hj=>by omega))
 simp only [laws_toClockS.f]
 rw [if_pos (by omega),if_pos (by omega)]
 rfl
theorem to_ev {x:S24} (h:Good24 x):x.cnt ≤ 1048576 → Ev (fun k=>laws_toClock.f k x.f0 x.f1 x.f2) (x.f0,x.f1,convL x.f2):=by
 induction h with
 | mk a b l ha hb hl hx ih =>
  intro hc
  have hc':(S24.mk a b l).cnt = l.length + subL l:=by rw [S24.cnt]
  rw [hc'] at hc
  have hs:=toS_of (l:=l) (by omega) (fun y hy=>ih y hy (by have:=cnt_le_subL hy;omega))
  exact Ev.cb hs (fun k hk=>by simp only [laws_toClock.f,laws_toClock.body,hk,Option.bind_some]) (Ev.now _)
inductive W29:S29 → Prop where
 | mk (a b:Int) (l:List S29) (hl:l.length ≤ 1048576) (hx:∀ y,y ∈ l → W29 y):W29 ⟨a,b,l⟩
theorem W29.len {x:S29} (h:W29 x):x.f2.length ≤ 1048576:=by cases h;assumption
theorem conv_W {x:S24} (h:Good24 x):x.cnt ≤ 1048576 → W29 x.conv:=by
 induction h with
 | mk a b l ha hb hl hx ih =>
  intro hc
  have hc':(S24.mk a b l).cnt = l.length + subL l:=by rw [S24.cnt]
  rw [hc'] at hc
  rw [S24.conv,convL_map]
  refine .mk a b _ (by rw [List.length_map];omega) (fun y hy=>?_)
  obtain ⟨z,hz,rfl⟩:=List.mem_map.1 hy
  exact ih z hz (by have:=cnt_le_subL hz;omega)
theorem eqS_of {l:List S29} (hl:l.length ≤ 1048576) (ih:∀ y,y ∈ l → Ev (fun k=>laws_eqClock.f k y.f0 y.f1 y.f2 y.f0 y.f1 y.f2) true):Ev (fun k=>laws_eqClockS.f k l l) true:=by
 have loop:∀ (d i:Nat),i + d = l.length → Ev (fun k=>laws_eqClockS.l0 k l l i) true:=by
  intro d
  induction d with
  | zero =>
   intro i hi
   refine Ev.step (fun k=>?_) (Ev.now true)
   simp only [laws_eqClockS.l0]
   rw [if_neg (by omega)]
  | succ d ihd =>
   intro i hi
   have hil:i < l.length:=by omega
   refine Ev.sb (ih l[i] (List.getElem_mem hil)) (fun k hk=>?_) (ihd (i + 1) (by omega))
   unfold laws_eqClock.f at hk
   simp only [laws_eqClockS.l0]
   rw [if_pos (by omega),if_pos (by omega),if_pos (by omega),rd29_nat _ _ hil,hk]
   simp only [Option.bind_some]
   rw [if_pos (by trivial),wrap_succ hil (by omega)]
 refine Ev.step (fun k=>?_) (loop l.length 0 (by omega))
 simp only [laws_eqClockS.f]
 rw [if_pos (by trivial)]
 rfl
theorem eq_ev {x:S29} (h:W29 x):Ev (fun k=>laws_eqClock.f k x.f0 x.f1 x.f2 x.f0 x.f1 x.f2) true:=by
 induction h with
 | mk a b l hl hx ih =>
  refine Ev.cb (eqS_of hl ih) (fun k hk=>?_) (Ev.now true)
  simp only [laws_eqClock.f,laws_eqClock.body,if_true,hk,Option.bind_some]
end Go.Proofs.Ytnkgcjdlfenepaa.P
