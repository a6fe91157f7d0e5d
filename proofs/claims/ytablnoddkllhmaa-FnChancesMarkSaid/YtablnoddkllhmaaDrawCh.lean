/- What is drawn for chains: small rows. Plain; no condition. -/
import Derived.Test.YtablnoddkllhmaaP0
import Derived.Test.YtablnoddkllhmaaP1
import Derived.Test.YtablnoddkllhmaaHDraw
import Derived.Test.YtablnoddkllhmaaPick
namespace Go.Proofs.Ytablnoddkllhmaa.P
open Go.RowKit Go.Proofs.YtablnoddkllhmaaW.PrintWords Go.Proofs.YtablnoddkllhmaaW.PrintLast
set_option linter.unusedVariables false
set_option linter.unusedSimpArgs false
structure SmCh (m:List Int) (ws:List (List Int)):Prop where
 len:m.length ≤ 5
 wlen:ws.length ≤ 5
 row:∀ x ∈ ws,x.length ≤ 5
theorem SmCh.at {m:List Int} {ws:List (List Int)} (h:SmCh m ws) (i:Int):(rd_L1 ws i).length ≤ 5:=by
 unfold rd_L1
 rw [List.getD_eq_getElem?_getD]
 cases hc:ws[i.toNat]? with
 | none=>simp
 | some v=>exact h.row v (List.mem_of_getElem? hc)
theorem SmCh.set {m:List Int} {ws:List (List Int)} (h:SmCh m ws) (i:Nat) (x:List Int) (hx:x.length ≤ 5):SmCh m (ws.set i x) :=
 ⟨h.len,by rw [List.length_set];exact h.wlen,fun y hy=>by
  rcases List.mem_or_eq_of_mem_set hy with hy | rfl
  ·exact h.row y hy
  ·exact hx⟩
theorem SmCh.setM {m:List Int} {ws:List (List Int)} (h:SmCh m ws) (i:Nat) (x:Int):SmCh (m.set i x) ws:=⟨by rw [List.length_set];exact h.len,h.wlen,h.row⟩
section
variable {s:List Int} (hs:Src s)
include hs
theorem draw_j3 {m:List Int} {ws:List (List Int)} (h:SmCh m ws) (h1:1 ≤ m.length) (h2:1 ≤ ws.length) (h3:1 ≤ (rd_L1 ws 0).length) {p:Int} (hp:0 ≤ p) (hp2:p ≤ 1000000) :
  ∃ m' ws',SmCh m' ws'∧Ev (fun k=>spec_l92Chances.j3 k s p m ws) (m',ws',p + 1):=by
 obtain ⟨v,v0,v1,hv⟩:=pick_ev hs hp (by omega) (show (1:Int) ≤ 30 by omega)
 have h4:=h.at 0
 by_cases c0:v = 0
 ·refine ⟨_,_,h.set (0:Int).toNat ((rd_L1 ws 0).set (0:Int).toNat (wrap64 ((rd (rd_L1 ws 0) 0) + 1))) (by rw [List.length_set];exact h4),Ev.sb hv (f:=fun _=>some _) (fun k hk=>?_) (Ev.now _)⟩
  simp only [spec_l92Chances.j3]
  rw [hk]
  simp only [Option.bind_some]
  rw [if_pos c0,if_pos (by omega),if_pos (by omega)]
 ·by_cases c1:v = 1
  ·refine ⟨_,_,h.setM (0:Int).toNat 10,Ev.sb hv (f:=fun _=>some _) (fun k hk=>?_) (Ev.now _)⟩
   simp only [spec_l92Chances.j3]
   rw [hk]
   simp only [Option.bind_some]
   rw [if_neg c0,if_pos c1,if_pos (by omega)]
  ·by_cases c2:v = 2
   ·refine ⟨_,_,h.set (0:Int).toNat ((rd_L1 ws 0).drop 1) (by rw [List.length_drop];omega),Ev.sb hv (f:=fun _=>some _) (fun k hk=>?_) (Ev.now _)⟩
    simp only [spec_l92Chances.j3]
    rw [hk]
    simp only [Option.bind_some]
    rw [if_neg c0,if_neg c1,if_pos c2,if_pos (by omega),if_pos (by omega)]
   ·by_cases c3:v = 3
    ·refine ⟨[],[],⟨by simp,by simp,by simp⟩,Ev.sb hv (f:=fun _=>some _) (fun k hk=>?_) (Ev.now _)⟩
     simp only [spec_l92Chances.j3]
     rw [hk]
     simp only [Option.bind_some]
     rw [if_neg c0,if_neg c1,if_neg c2,if_pos c3]
    ·refine ⟨m,ws,h,Ev.sb hv (f:=fun _=>some _) (fun k hk=>?_) (Ev.now _)⟩
     simp only [spec_l92Chances.j3]
     rw [hk]
     simp only [Option.bind_some]
     rw [if_neg c0,if_neg c1,if_neg c2,if_neg c3]
theorem draw_j2 {m:List Int} {ws:List (List Int)} {b:Bool} (h:SmCh m ws) (h1:1 ≤ m.length) (h2:m.length = ws.length) (h3:1 ≤ (rd_L1 ws 0).length) (hb:b = true → 2 ≤ m.length) {p:Int} (hp:0 ≤ p) (hp2:p ≤ 1000000) :
  ∃ m' ws',SmCh m' ws'∧Ev (fun k=>spec_l92Chances.j2 k b s p m ws) (m',ws',p + 1):=by
 cases b with
 | false =>
  obtain ⟨m',ws',h',he⟩:=draw_j3 hs h h1 (by omega) h3 hp hp2
  refine ⟨m',ws',h',Ev.step (fun k=>?_) he⟩
  simp only [spec_l92Chances.j2]
  rw [if_neg (by simp)]
 | true =>
  have h4:=hb rfl
  have h5:=h.at 0
  obtain ⟨m',ws',h',he⟩:=draw_j3 hs (m:=m.set (1:Int).toNat (rd m 0)) (ws:=ws.set (1:Int).toNat ([] ++ rd_L1 ws 0)) ((h.setM _ _).set _ _ (by simpa using h5)) (by rw [List.length_set];omega) (by rw [List.length_set];omega) (by
   have:rd_L1 (ws.set (1:Int).toNat ([] ++ rd_L1 ws 0)) 0 = rd_L1 ws 0:=by
    unfold rd_L1
    rw [List.getD_eq_getElem?_getD,List.getElem?_set_ne (by decide),← List.getD_eq_getElem?_getD]
   rw [this]
   exact h3) hp hp2
  refine ⟨m',ws',h',Ev.step (fun k=>?_) he⟩
  simp only [spec_l92Chances.j2]
  rw [if_pos trivial,if_pos (by omega),if_pos (by omega)]
  simp only [Option.bind_some]
  rw [if_pos (by omega),if_pos (by simp;omega),if_pos (by omega)]
structure SoFar (n i:Nat) (m:List Int) (ws:List (List Int)):Prop where
 n1:1 ≤ n
 n5:n ≤ 5
 le:i ≤ n
 ml:m.length = i
 wl:ws.length = i
 row:∀ x ∈ ws,x.length = n
omit hs in
theorem SoFar.sm {n i:Nat} {m:List Int} {ws:List (List Int)} (h:SoFar n i m ws):SmCh m ws:=⟨by have:=h.ml;have:=h.le;have:=h.n5;omega,by have:=h.wl;have:=h.le;have:=h.n5;omega,fun x hx=>by rw [h.row x hx];exact h.n5⟩
theorem draw_l1 {n i:Nat} {m:List Int} {ws:List (List Int)} {v:Int} (h:SoFar n i m ws) (hi:i < n) (P:List Int × List (List Int) × Int → Prop)
  (ih:∀ (row:List Int) (p:Int),row.length = n → 0 ≤ p → p ≤ 20 * (i + 1) + 20 → ∃ r,P r∧Ev (fun k=>spec_l92Chances.l0 k n ((i + 1:Nat):Int) s p (m ++ [v]) (ws ++ [row])) r) (d:Nat) :
  ∀ (t:Nat) (row:List Int) (p:Int),t + d = 3 → row.length = n → 0 ≤ p → p ≤ 20 * i + 20 + t + 1 → ∃ r,P r∧Ev (fun k=>spec_l92Chances.l1 k n i row ((2 * t:Nat):Int) s p (m ++ [v]) ws) r:=by
 have a1:=h.n1
 have a2:=h.n5
 have a3:=h.ml
 have a4:=h.wl
 induction d with
 | zero =>
  intro t row p ht hl hp hp2
  obtain ⟨v1,v10,v11,hv1⟩:=pick_ev hs hp (by omega) (show (1:Int) ≤ 2 by omega)
  by_cases c:v1 = 0
  ·obtain ⟨v2,v20,v21,hv2⟩:=pick_ev hs (show 0 ≤ p + 1 by omega) (by omega) (show (1:Int) ≤ (n:Int) by omega)
   obtain ⟨r,hr,he⟩:=ih ((List.replicate n 0).set v2.toNat 6) (p + 1 + 1) (by simp) (by omega) (by omega)
   refine ⟨r,hr,Ev.sb hv1 (fun k hk=>?_) (Ev.cb (g:=fun k=>((spec_l6Rd_pick.f k s (p + 1) n).bind fun bt203=>(if 0 ≤ bt203.1 then (if bt203.1 < ((List.replicate n (0:Int)).length:Int) then (if ws.length < 5864062014805 then (spec_l92Chances.l0 k n (wrap64 ((i:Int) + 1)) s bt203.2 (m ++ [v]) (ws ++ [((List.replicate n 0).set (bt203.1:Int).toNat 6)])) else (none)) else (none)) else (none)))) hv2 (fun k hk=>?_) he)⟩
   ·simp only [spec_l92Chances.l1]
    rw [if_neg (by omega),hk]
    simp only [Option.bind_some]
    rw [if_pos c,if_pos (by omega),if_pos (by omega)]
    rfl
   ·rw [hk]
    simp only [Option.bind_some]
    rw [if_pos v20,if_pos (by simp;omega),if_pos (by omega),wrap_succ (show i < n by omega) (by omega)]
  ·obtain ⟨r,hr,he⟩:=ih row (p + 1) hl (by omega) (by omega)
   refine ⟨r,hr,Ev.sb hv1 (fun k hk=>?_) he⟩
   simp only [spec_l92Chances.l1]
   rw [if_neg (by omega),hk]
   simp only [Option.bind_some]
   rw [if_neg c,if_pos (by omega),wrap_succ (show i < n by omega) (by omega)]
 | succ d ihd =>
  intro t row p ht hl hp hp2
  obtain ⟨v1,v10,v11,hv1⟩:=pick_ev hs hp (by omega) (show (1:Int) ≤ (n:Int) by omega)
  obtain ⟨r,hr,he⟩:=ihd (t + 1) (row.set v1.toNat (wrap64 (rd row v1 + 2))) (p + 1) (by omega) (by rw [List.length_set];exact hl) (by omega) (by omega)
  refine ⟨r,hr,Ev.sb hv1 (fun k hk=>?_) he⟩
  simp only [spec_l92Chances.l1]
  rw [if_pos (by omega),hk]
  simp only [Option.bind_some]
  rw [if_pos v10,if_pos (by omega),show ((2 * t:Nat):Int) + 2 = ((2 * (t + 1):Nat):Int) by omega,wrap_id (x:=((2 * (t + 1):Nat):Int)) (by omega) (by omega)]
theorem draw_l0 {n:Nat} (d:Nat):∀ (i:Nat) (m:List Int) (ws:List (List Int)) (p:Int),i + d = n → SoFar n i m ws → 0 ≤ p → p ≤ 20 * i + 20 →
  ∃ r:List Int × List (List Int) × Int,(SmCh r.1 r.2.1∧0 ≤ r.2.2∧r.2.2 ≤ 1000)∧Ev (fun k=>spec_l92Chances.l0 k n i s p m ws) r:=by
 induction d with
 | zero =>
  intro i m ws p hd h hp hp2
  have a1:=h.n1
  have a2:=h.n5
  have a3:=h.ml
  have a4:=h.wl
  have hr:1 ≤ (rd_L1 ws 0).length:=by
   have hw:0 < ws.length:=by omega
   have:rd_L1 ws 0 = ws[0]:=by
    unfold rd_L1
    rw [List.getD_eq_getElem?_getD,show (0:Int).toNat = 0 from rfl,List.getElem?_eq_getElem hw]
    rfl
   rw [this,h.row _ (List.getElem_mem hw)]
   exact a1
  by_cases c:(n:Int) > 1
  ·obtain ⟨v1,v10,v11,hv1⟩:=pick_ev hs hp (by omega) (show (1:Int) ≤ 3 by omega)
   obtain ⟨m',ws',h',he⟩:=draw_j2 hs (b:=v1 == 0) h.sm (by omega) (by omega) hr (fun _=>by omega) (show 0 ≤ p + 1 by omega) (by omega)
   refine ⟨_,⟨h',by show 0 ≤ p + 1 + 1;omega,by show p + 1 + 1 ≤ 1000;omega⟩,Ev.sb hv1 (fun k hk=>?_) he⟩
   simp only [spec_l92Chances.l0]
   rw [if_neg (by omega),if_pos c,hk]
   simp only [Option.bind_some]
  ·obtain ⟨m',ws',h',he⟩:=draw_j2 hs (b:=false) h.sm (by omega) (by omega) hr (fun h=>by simp at h) hp (by omega)
   refine ⟨_,⟨h',by show 0 ≤ p + 1;omega,by show p + 1 ≤ 1000;omega⟩,Ev.step (fun k=>?_) he⟩
   simp only [spec_l92Chances.l0]
   rw [if_neg (by omega),if_neg c]
 | succ d ih =>
  intro i m ws p hd h hp hp2
  have a1:=h.n1
  have a2:=h.n5
  have a3:=h.ml
  have a4:=h.wl
  obtain ⟨v1,v10,v11,hv1⟩:=pick_ev hs hp (by omega) (show (1:Int) ≤ 2 by omega)
  obtain ⟨r,hr,he⟩:=draw_l1 hs (v:=v1) h (by omega) (fun r=>SmCh r.1 r.2.1∧0 ≤ r.2.2∧r.2.2 ≤ 1000) (fun row q hl hq hq2=>ih (i + 1) (m ++ [v1]) (ws ++ [row]) q (by omega) ⟨a1,a2,by omega,by simp;omega,by simp;omega,fun x hx=>by
   rcases List.mem_append.1 hx with hx | hx
   ·exact h.row x hx
   ·rw [List.mem_singleton.1 hx];exact hl⟩ hq (by omega)) 3 0 (List.replicate n 0) (p + 1) (by omega) (by simp) (by omega) (by omega)
  refine ⟨r,hr,Ev.sb hv1 (fun k hk=>?_) he⟩
  simp only [spec_l92Chances.l0]
  rw [if_pos (by omega),hk]
  simp only [Option.bind_some]
  rw [if_pos (by omega),if_pos (by omega),if_pos (by omega)]
  rfl
theorem drawCh_ev:∃ m ws p,SmCh m ws∧0 ≤ p∧p ≤ 1000∧Ev (fun k=>spec_l92Chances.f k s 0) (m,ws,p):=by
 obtain ⟨v1,v10,v11,hv1⟩:=pick_ev hs (show (0:Int) ≤ 0 by omega) (by omega) (show (1:Int) ≤ 5 by omega)
 obtain ⟨c,rfl⟩:∃ c:Nat,v1 = (c:Int):=⟨v1.toNat,by omega⟩
 obtain ⟨⟨m,ws,p⟩,⟨h1,h2,h3⟩,he⟩:=draw_l0 hs (n:=1 + c) (1 + c) 0 [] [] 1 (by omega) ⟨by omega,by omega,by omega,rfl,rfl,fun x hx=>by simp at hx⟩ (by omega) (by omega)
 refine ⟨m,ws,p,h1,h2,h3,Ev.cb hv1 (fun k hk=>?_) he⟩
 simp only [spec_l92Chances.f]
 rw [hk]
 simp only [Option.bind_some]
 rw [wrap_id (by omega) (by omega)]
 rfl
theorem drawSteps_ev {p:Int} (hp:0 ≤ p) (hp2:p ≤ 100000):∃ n q:Int,(-1 ≤ n∧n ≤ 13)∧0 ≤ q∧q ≤ p + 2∧Ev (fun k=>spec_l92Steps.f k s p) (n,q):=by
 obtain ⟨v1,v10,v11,hv1⟩:=pick_ev hs hp (by omega) (show (1:Int) ≤ 20 by omega)
 by_cases c:v1 = 0
 ·obtain ⟨v2,v20,v21,hv2⟩:=pick_ev hs (show 0 ≤ p + 1 by omega) (by omega) (show (1:Int) ≤ 3 by omega)
  refine ⟨rd [-1,12,13] v2,p + 1 + 1,?_,by omega,by omega,Ev.cb hv1 (fun k hk=>?_) (Ev.cb (g:=fun k=>((spec_l6Rd_pick.f k s (p + 1) 3).bind fun bt261=>(if 0 ≤ bt261.1 then (if bt261.1 < (([-1,12,13]:List Int).length:Int) then (some (rd [-1,12,13] bt261.1,bt261.2)) else (none)) else (none)))) (f:=fun _=>some _) hv2 (fun k hk=>?_) (Ev.now _))⟩
  ·obtain ⟨j,rfl⟩:∃ j:Nat,v2 = (j:Int):=⟨v2.toNat,by omega⟩
   rcases j with _ | _ | _ | j
   ·simp [rd]
   ·simp [rd]
   ·simp [rd]
   ·omega
  ·simp only [spec_l92Steps.f]
   rw [hk]
   simp only [Option.bind_some]
   rw [if_pos c]
  ·rw [hk]
   simp only [Option.bind_some]
   rw [if_pos v20,if_pos (by simp;omega)]
 ·obtain ⟨v2,v20,v21,hv2⟩:=pick_ev hs (show 0 ≤ p + 1 by omega) (by omega) (show (1:Int) ≤ 6 by omega)
  refine ⟨v2,p + 1 + 1,by omega,by omega,by omega,Ev.cb hv1 (fun k hk=>?_) (Ev.cb (g:=fun k=>((spec_l6Rd_pick.f k s (p + 1) 6).bind fun bt264=>(some (bt264.1,bt264.2)))) (f:=fun _=>some _) hv2 (fun k hk=>?_) (Ev.now _))⟩
  ·simp only [spec_l92Steps.f]
   rw [hk]
   simp only [Option.bind_some]
   rw [if_neg c]
  ·rw [hk]
   simp only [Option.bind_some]
end
theorem u8_wf {x:Int} (h:(Lit.int .u8 x).wf = true):0 ≤ x∧x < 256:=by
 simp [Lit.wf] at h
 have h1:IntKind.u8.min = 0:=by decide
 have h2:IntKind.u8.max = 255:=by decide
 omega
theorem open_ev {l:List Int} (hb:∀ x,x ∈ l → (Lit.int .u8 x).wf = true):∃ s,Src s∧spec_l6Open.f l = some (s,0):=by
 by_cases h:(l.length:Int) > 2000
 ·refine ⟨l.take 2000,⟨fun x hx=>u8_wf (hb x (List.mem_of_mem_take hx)),by rw [List.length_take];omega⟩,?_⟩
  simp only [spec_l6Open.f]
  rw [if_pos h,if_pos (by omega)]
 ·refine ⟨l,⟨fun x hx=>u8_wf (hb x hx),by omega⟩,?_⟩
  simp only [spec_l6Open.f]
  rw [if_neg h]
end Go.Proofs.Ytablnoddkllhmaa.P
