/- What nobody sees is urgent: the plain law. No condition. -/
import Derived.Test.YtnkgcjdlfenepaaP0
import Derived.Test.YtnkgcjdlfenepaaP2
import Derived.Test.YtnkgcjdlfenepaaP3
import Derived.Test.YtnkgcjdlfenepaaP4
import Derived.Test.YtnkgcjdlfenepaaClkLat
import Derived.Test.YtnkgcjdlfenepaaDrawClk
namespace Go.Proofs.Ytnkgcjdlfenepaa.Pure
open Go.RowKit Go.Proofs.Ytnkgcjdlfenepaa.P Go.Proofs.YtnkgcjdlfenepaaW.PrintWords Go.Proofs.YtnkgcjdlfenepaaW.PrintLast
set_option linter.unusedVariables false
set_option linter.unusedSectionVars false
section
variable {X Y:List S44} {ok:Bool} (hX:X.length ≤ 65536) (hY:Y.length ≤ 65536) (hk:ok = true → ∀ t,t ∈ X → t.f0 ≠ 0∧∃ u,u ∈ Y∧u.f0 = t.f0)
include hX hY hk
theorem law_l1 {i:Nat} (hi:i < X.length) (h:Ev (fun k=>laws_FnClockSteps.l0 k X ok Y (wrap64 ((i:Int) + 1))) true) :
  ∀ (d j:Nat) (b:Bool),j + d = Y.length → (ok = true → b = true ∨ ∃ u,u ∈ Y.drop j∧u.f0 = X[i].f0) → Ev (fun k=>laws_FnClockSteps.l1 k X ok Y i b j) true:=by
 intro d
 induction d with
 | zero =>
  intro j b hj hb
  have hb':ok = true → b = true:=fun h=>by
   rcases hb h with h | ⟨u,hu,_⟩
   ·exact h
   ·rw [List.drop_eq_nil_of_le (by omega)] at hu
    cases hu
  refine Ev.step (fun k=>?_) h
  simp only [laws_FnClockSteps.l1]
  rw [if_neg (by omega)]
  cases ok with
  | false=>rw [if_neg (by decide)]
  | true=>rw [if_pos rfl,hb' rfl,if_pos rfl]
 | succ d ih =>
  intro j b hj hb
  have hjl:j < Y.length:=by omega
  cases b with
  | true =>
   refine Ev.step (fun k=>?_) (ih (j + 1) true (by omega) (fun _=>.inl rfl))
   simp only [laws_FnClockSteps.l1]
   rw [if_pos (by omega),if_pos (by trivial),wrap_succ hjl (by omega)]
  | false =>
   refine Ev.step (fun k=>?_) (ih (j + 1) (Y[j].f0 == X[i].f0) (by omega) (fun h=>?_))
   ·simp only [laws_FnClockSteps.l1]
    rw [if_pos (by omega),if_neg (by decide),if_pos (by omega),if_pos (by omega),if_pos (by omega),rd44_nat _ _ hjl,rd44_nat _ _ hi,wrap_succ hjl (by omega)]
   ·rcases hb h with h | ⟨u,hu,e⟩
    ·cases h
    ·rw [List.drop_eq_getElem_cons hjl] at hu
     rcases List.mem_cons.1 hu with rfl | hu
     ·exact .inl (by simpa using e)
     ·exact .inr ⟨u,hu,e⟩
theorem law_l0:∀ (d i:Nat),i + d = X.length → Ev (fun k=>laws_FnClockSteps.l0 k X ok Y i) true:=by
 intro d
 induction d with
 | zero =>
  intro i hi
  refine Ev.step (f:=fun _=>some true) (fun k=>?_) (Ev.now true)
  simp only [laws_FnClockSteps.l0]
  rw [if_neg (by omega)]
 | succ d ih =>
  intro i hi
  have hil:i < X.length:=by omega
  have hn:=ih (i + 1) (by omega)
  rw [← wrap_succ hil (by omega)] at hn
  have h1:=law_l1 hX hY hk hil hn Y.length 0 false (by omega) (fun h=>.inr (by
   obtain ⟨_,u,hu,e⟩:=hk h X[i] (List.getElem_mem hil)
   exact ⟨u,by rw [List.drop_zero];exact hu,e⟩))
  have hj2:Ev (fun k=>laws_FnClockSteps.j2 k X ok Y i false) true:=by
   refine Ev.step (fun k=>?_) h1
   simp only [laws_FnClockSteps.j2]
   rw [if_neg (by decide)]
   rfl
  refine Ev.step (fun k=>?_) hj2
  simp only [laws_FnClockSteps.l0]
  rw [if_pos (by omega),if_pos (by omega),rd44_nat _ _ hil]
  by_cases c:X[i].f0 = 0
  ·rw [if_pos c]
   cases ok with
   | false=>rfl
   | true=>exact absurd c (hk rfl X[i] (List.getElem_mem hil)).1
  ·rw [if_neg c]
end
theorem FnClockSteps:laws_FnClockSteps.Pure:=by
 intro l0 hlen hlen2 hwf
 by_cases hl:(l0.length:Int) > 1048576
 ·exact ⟨0,by simp only [laws_FnClockSteps.f];rw [if_pos hl]⟩
 ·obtain ⟨s,hs,ho⟩:=open_ev hwf
  obtain ⟨x,p,hw,_,_,K0,h0⟩:=timed_ev hs (p:=0) (by omega) (by omega)
  have h0:∀ k,K0 ≤ k → spec_l92Timed.f k s 0 = some (x.f0,x.f1,x.f2,p):=h0
  obtain ⟨K1,h1⟩:=steps_ev hw
  obtain ⟨K2,h2⟩:=specSteps_ev hw
  have hA:(if clockOk x = true then (x.tk,true) else ([],false)).1.length ≤ 65536∧∀ t,t ∈ (if clockOk x = true then (x.tk,true) else ([],false)).1 → W29 t.f1:=by
   by_cases c:clockOk x = true
   ·obtain ⟨ht,hn⟩:=clockOk_t hw c
    have:=tk_small ht hn
    rw [if_pos c]
    exact ⟨by show x.tk.length ≤ 65536;omega,tk_W ht⟩
   ·rw [if_neg c]
    exact ⟨by simp,by simp⟩
  obtain ⟨K3,h3⟩:=mnTicks_ev hA.1 hA.2
  obtain ⟨K4,h4⟩:=implPass_ev hw
  have hP:OkT (passOf x).1∧(passOf x).1.nodes ≤ 16:=by
   unfold passOf
   split
   ·rename_i c
    obtain ⟨ht,hn⟩:=clockOk_t hw c.1
    have:=ps_ok ht c.2
    exact ⟨this.1,by show x.ps.1.nodes ≤ 16;omega⟩
   ·exact ⟨.nil,by simp [S29.nodes,nodesL]⟩
  have hc2:=clockOk_of hP.1 hP.2
  obtain ⟨K5,h5⟩:=steps_ev hP.1.w
  rw [hc2,if_pos rfl] at h5
  have hs2:=tk_small hP.1 hP.2
  obtain ⟨K6,h6⟩:=law_l0 (X:=(if clockOk x = true then (x.tk,true) else ([],false)).1) (Y:=(passOf x).1.tk) (ok:=(passOf x).2) hA.1 (by omega) (fun h t ht=>by
   unfold passOf at h ⊢
   by_cases c:clockOk x = true∧x.ps.2 = true
   ·rw [if_pos c]
    rw [if_pos c.1] at ht
    obtain ⟨ht',hn⟩:=clockOk_t hw c.1
    exact (ps_keeps ht' c.2).1 t ht
   ·rw [if_neg c] at h
    cases h) _ 0 (Nat.zero_add _)
  have h1:∀ k,K1 ≤ k → impl_ClockSteps.f k x.f0 x.f1 x.f2 = some (if clockOk x = true then (x.tk,true) else ([],false)):=h1
  have h2:∀ k,K2 ≤ k → spec_ClockSteps.f k x.f0 x.f1 x.f2 = some (if clockOk x = true then (x.tk,true) else ([],false)):=h2
  have h4:∀ k,K4 ≤ k → impl_ClockPass.f k x.f0 x.f1 x.f2 = some (quad (passOf x)):=h4
  generalize (if clockOk x = true then (x.tk,true) else (([]:List S44),false)) = r at *
  have h3:∀ k,K3 ≤ k → laws_mnTicks.f k r.1 r.1 = some true:=h3
  have h5:∀ k,K5 ≤ k → impl_ClockSteps.f k (passOf x).1.f0 (passOf x).1.f1 (passOf x).1.f2 = some ((passOf x).1.tk,true):=h5
  have h6:∀ k,K6 ≤ k → laws_FnClockSteps.l0 k r.1 (passOf x).2 (passOf x).1.tk 0 = some true:=h6
  have hd:∀ k,K0 ≤ k → spec_DrawClockSteps.f k l0 = some (x.f0,x.f1,x.f2):=fun k hk=>by
   unfold spec_DrawClockSteps.f
   rw [ho,Option.bind_some,h0 _ (by omega),Option.bind_some]
  have hj:∀ k,K4 + K5 + K6 + 1 ≤ k → laws_FnClockSteps.j0 k r.1 false x.f0 x.f1 x.f2 = some true:=fun k hk=>by
   obtain ⟨k,rfl⟩:∃ m,k = m + 1:=⟨k - 1,by omega⟩
   simp only [laws_FnClockSteps.j0]
   rw [if_neg (by decide),h4 _ (by omega),Option.bind_some]
   dsimp only [quad]
   rw [h5 _ (by omega),Option.bind_some]
   exact h6 _ (by omega)
  refine ⟨K0 + K1 + K2 + K3 + K4 + K5 + K6 + 1,?_⟩
  unfold laws_FnClockSteps.f
  rw [if_neg hl,hd _ (by omega),Option.bind_some]
  dsimp only
  rw [h1 _ (by omega),Option.bind_some,h2 _ (by omega),Option.bind_some,h3 _ (by omega),Option.bind_some,if_pos rfl,show (r.2 != r.2) = false by simp]
  exact hj _ (by omega)
end Go.Proofs.Ytnkgcjdlfenepaa.Pure
