/- Histories: what is drawn. Plain; no condition. -/
import Derived.Test.YthljlnkanllpnaaP0
import Derived.Test.YthljlnkanllpnaaP1
import Derived.Test.YthljlnkanllpnaaP2
import Derived.Test.YthljlnkanllpnaaHistC
import Derived.Test.YthljlnkanllpnaaPick
namespace Go.Proofs.Ythljlnkanllpnaa.P
open Go.RowKit Go.Proofs.YthljlnkanllpnaaW.PrintWords Go.Proofs.YthljlnkanllpnaaW.PrintLast Go.Proofs.YthljlnkanllpnaaW.PrintMore Go.Proofs.Ythljlnkanllpnaa.Any
set_option linter.unusedVariables false
set_option linter.unusedSimpArgs false
section
variable {s:List Int}
theorem drawThreads_ev (hs:Src s) {p:Int} (hp:0 ≤ p) (hp2:p ≤ 1000000):∃ th p',SmallTh th∧p ≤ p'∧p' ≤ p + 100∧Ev (fun k=>spec_l92Threads.f k s p) (th,p'):=by
 have l2:∀ (d:Nat) (th:List (List Int)) (p:Int),th.length + d = 5 → SmallTh th → ∃ th',SmallTh th'∧Ev (fun k=>spec_l92Threads.l2 k th s p) (th',p):=by
  intro d
  induction d with
  | zero =>
   intro th p h1 hth
   refine ⟨th,hth,Ev.step (f:=fun _=>some (th,p)) (fun k=>?_) (Ev.now _)⟩
   simp only [spec_l92Threads.l2]
   rw [if_neg (by omega)]
  | succ d ihd =>
   intro th p h1 hth
   obtain ⟨th',h2,h3⟩:=ihd (th ++ [[]]) p (by rw [List.length_append,List.length_singleton];omega) ⟨by rw [List.length_append,List.length_singleton];omega,fun x hx=>by
    rcases List.mem_append.1 hx with hx | hx
    ·exact hth.row x hx
    ·rw [List.mem_singleton.1 hx];simp⟩
   refine ⟨th',h2,Ev.step (fun k=>?_) h3⟩
   simp only [spec_l92Threads.l2]
   rw [if_pos (by omega),if_pos (by omega)]
 have l0:∀ (m:Nat) (th:List (List Int)) (p:Int),1 ≤ th.length + m → th.length + m ≤ 4 → SmallTh th → (∀ x,x ∈ th → x.length ≤ 10) → 0 ≤ p → p + 10 * m ≤ 2000000 →
   ∃ th' p',SmallTh th'∧p ≤ p'∧p' ≤ p + 10 * m + 5∧Ev (fun k=>spec_l92Threads.l0 k th m s p) (th',p'):=by
  intro m
  induction m with
  | zero =>
   intro th p h1 h4 hth h10 hp hp2
   obtain ⟨v,v0,v1,hv⟩:=pick_ev hs hp (by omega) (show (1:Int) ≤ 30 by omega)
   by_cases e0:v = 0
   ·refine ⟨th.set 0 (rd_L2 th 0 ++ [9]),p + 1,⟨by rw [List.length_set];omega,fun x hx=>?_⟩,by omega,by omega,Ev.sb hv (fun k hk=>?_) (f:=fun _=>some (th.set 0 (rd_L2 th 0 ++ [9]),p + 1)) (Ev.now _)⟩
    ·rcases List.mem_or_eq_of_mem_set hx with hx | rfl
     ·exact hth.row x hx
     ·have:=h10 th[0] (List.getElem_mem (by omega))
      rw [show (0:Int) = ((0:Nat):Int) from rfl,rdL_nat _ _ (by omega),List.length_append,List.length_singleton]
      omega
    ·have:=h10 th[0] (List.getElem_mem (by omega))
     simp only [spec_l92Threads.l0]
     rw [if_neg (by omega),hk]
     simp only [Option.bind_some]
     rw [if_pos e0,if_pos (by omega),if_pos (by rw [show (0:Int) = ((0:Nat):Int) from rfl,rdL_nat _ _ (by omega)];omega)]
     rfl
   ·by_cases e1:v = 1
    ·obtain ⟨th',h2,h3⟩:=l2 (5 - th.length) th (p + 1) (by omega) hth
     refine ⟨th',p + 1,h2,by omega,by omega,Ev.sb hv (fun k hk=>?_) h3⟩
     simp only [spec_l92Threads.l0]
     rw [if_neg (by omega),hk]
     simp only [Option.bind_some]
     rw [if_neg e0,if_pos e1]
    ·refine ⟨th,p + 1,hth,by omega,by omega,Ev.sb hv (fun k hk=>?_) (f:=fun _=>some (th,p + 1)) (Ev.now _)⟩
     simp only [spec_l92Threads.l0]
     rw [if_neg (by omega),hk]
     simp only [Option.bind_some]
     rw [if_neg e0,if_neg e1]
  | succ m ihm =>
   intro th p h1 h4 hth h10 hp hp2
   have l1:∀ (c:Nat) (row:List Int) (p:Int),row.length + c ≤ 10 → 0 ≤ p → p + c + 10 * m ≤ 2000000 →
     ∃ th' p',SmallTh th'∧p ≤ p'∧p' ≤ p + c + 10 * m + 5∧Ev (fun k=>spec_l92Threads.l1 k th ((m + 1:Nat):Int) row c s p) (th',p'):=by
    intro c
    induction c with
    | zero =>
     intro row p hr hp hp2
     obtain ⟨th',p',h5,h6,h7,h8⟩:=ihm (th ++ [row]) p (by rw [List.length_append,List.length_singleton];omega) (by rw [List.length_append,List.length_singleton];omega) ⟨by rw [List.length_append,List.length_singleton];omega,fun x hx=>by
      rcases List.mem_append.1 hx with hx | hx
      ·exact hth.row x hx
      ·rw [List.mem_singleton.1 hx];omega⟩ (fun x hx=>by
      rcases List.mem_append.1 hx with hx | hx
      ·exact h10 x hx
      ·rw [List.mem_singleton.1 hx];omega) hp (by omega)
     refine ⟨th',p',h5,h6,by omega,Ev.step (fun k=>?_) h8⟩
     simp only [spec_l92Threads.l1]
     rw [if_neg (by omega),if_pos (by omega),wrap_pred (by omega) (by omega),show ((m + 1:Nat):Int) - 1 = (m:Int) by omega]
    | succ c ihc =>
     intro row p hr hp hp2
     obtain ⟨v,v0,v1,hv⟩:=pick_ev hs hp (by omega) (show (1:Int) ≤ 3 by omega)
     obtain ⟨th',p',h5,h6,h7,h8⟩:=ihc (row ++ [wrap64 (v - 1)]) (p + 1) (by rw [List.length_append,List.length_singleton];omega) (by omega) (by omega)
     refine ⟨th',p',h5,by omega,by omega,Ev.sb hv (fun k hk=>?_) h8⟩
     simp only [spec_l92Threads.l1]
     rw [if_pos (by omega),hk]
     simp only [Option.bind_some]
     rw [if_pos (by omega),wrap_pred (x:=((c + 1:Nat):Int)) (by omega) (by omega),show ((c + 1:Nat):Int) - 1 = (c:Int) by omega]
   obtain ⟨v,v0,v1,hv⟩:=pick_ev hs hp (by omega) (show (1:Int) ≤ 6 by omega)
   obtain ⟨c,rfl⟩:∃ c:Nat,v = (c:Int):=⟨v.toNat,by omega⟩
   obtain ⟨th',p',h5,h6,h7,h8⟩:=l1 c [] (p + 1) (by simp <;> omega) (by omega) (by omega)
   refine ⟨th',p',h5,by omega,by omega,Ev.sb hv (fun k hk=>?_) h8⟩
   simp only [spec_l92Threads.l0]
   rw [if_pos (by omega),hk]
   rfl
 obtain ⟨v,v0,v1,hv⟩:=pick_ev hs hp (by omega) (show (1:Int) ≤ 4 by omega)
 obtain ⟨c,rfl⟩:∃ c:Nat,v = (c:Int):=⟨v.toNat,by omega⟩
 obtain ⟨th',p',h5,h6,h7,h8⟩:=l0 (1 + c) [] (p + 1) (by simp <;> omega) (by simp <;> omega) ⟨by simp,by simp⟩ (by simp) (by omega) (by omega)
 refine ⟨th',p',h5,by omega,by omega,Ev.cb hv (fun k hk=>?_) h8⟩
 simp only [spec_l92Threads.f,hk,Option.bind_some]
 rw [wrap_id (by omega) (by omega)]
 rfl
theorem drawHistory_ev (hs:Src s) {th:List (List Int)} (ht:SmallTh th) {p:Int} (hp:0 ≤ p) (hp2:p ≤ 1000000):∃ h p',h.length ≤ 20∧p ≤ p'∧p' ≤ p + 100∧Ev (fun k=>spec_l92History.f k s p th) (h,p'):=by
 have j1:∀ (h:List S32) (p:Int),h.length ≤ 19 → 0 ≤ p → p ≤ 2000000 → ∃ h' p',h'.length ≤ 20∧p ≤ p'∧p' ≤ p + 3∧Ev (fun k=>spec_l92History.j1 k h s p) (h',p'):=by
  intro h p hl hp hp2
  obtain ⟨v,v0,v1,hv⟩:=pick_ev hs hp (by omega) (show (1:Int) ≤ 20 by omega)
  by_cases e0:v = 0
  ·obtain ⟨u,u0,u1,hu⟩:=pick_ev hs (show 0 ≤ p + 1 by omega) (by omega) (show (1:Int) ≤ 5 by omega)
   obtain ⟨t,t0,t1,ht⟩:=pick_ev hs (show 0 ≤ p + 1 + 1 by omega) (by omega) (show (1:Int) ≤ 6 by omega)
   refine ⟨h ++ [⟨wrap64 (u - 1),wrap64 (t - 2)⟩],p + 1 + 1 + 1,by rw [List.length_append,List.length_singleton];omega,by omega,by omega,Ev.sb hv (fun k hk=>?_) (f:=fun k=>(spec_l6Rd_pick.f k s (p + 1) 5).bind fun bt209=>((spec_l6Rd_pick.f k s bt209.2 6).bind fun bt211=>(if h.length < 8796093022208 then (some ((h ++ [(⟨wrap64 (bt209.1 - 1),wrap64 (bt211.1 - 2)⟩:S32)]),bt211.2)) else (none)))) (Ev.cb hu (fun k hk=>?_) (f:=fun k=>(spec_l6Rd_pick.f k s (p + 1 + 1) 6).bind fun bt211=>(if h.length < 8796093022208 then (some ((h ++ [(⟨wrap64 (u - 1),wrap64 (bt211.1 - 2)⟩:S32)]),bt211.2)) else (none))) (Ev.cb ht (fun k hk=>?_) (Ev.now _)))⟩
   ·simp only [spec_l92History.j1,hk,Option.bind_some]
    rw [if_pos e0]
   ·simp only [hk,Option.bind_some]
   ·simp only [hk,Option.bind_some]
    rw [if_pos (by omega)]
  ·refine ⟨h,p + 1,by omega,by omega,by omega,Ev.sb hv (fun k hk=>?_) (f:=fun _=>some (h,p + 1)) (Ev.now _)⟩
   simp only [spec_l92History.j1,hk,Option.bind_some]
   rw [if_neg e0]
 have l0:∀ (m:Nat) (h:List S32) (p:Int),h.length + m ≤ 19 → 0 ≤ p → p + m ≤ 2000000 → ∃ h' p',h'.length ≤ 20∧p ≤ p'∧p' ≤ p + m + 3∧Ev (fun k=>spec_l92History.l0 k th h m s p) (h',p'):=by
  intro m
  induction m with
  | zero =>
   intro h p hl hp hp2
   obtain ⟨h',p',h1,h2,h3,h4⟩:=j1 h p (by omega) hp (by omega)
   refine ⟨h',p',h1,h2,by omega,Ev.step (fun k=>?_) h4⟩
   simp only [spec_l92History.l0]
   rw [if_neg (by omega)]
  | succ m ihm =>
   intro h p hl hp hp2
   have hm:=specMay_ev (h:=h) ht (by omega)
   have hml:=mayOf_len th h
   by_cases hz:(mayOf th h).length = 0
   ·obtain ⟨h',p',h1,h2,h3,h4⟩:=j1 h p (by omega) hp (by omega)
    refine ⟨h',p',h1,h2,by omega,Ev.sb hm (fun k hk=>?_) h4⟩
    simp only [spec_l92History.l0]
    rw [if_pos (by omega),hk]
    simp only [Option.bind_some]
    rw [if_pos (by omega)]
   ·obtain ⟨v,v0,v1,hv⟩:=pick_ev hs hp (by omega) (show (1:Int) ≤ ((mayOf th h).length:Int) by omega)
    obtain ⟨h',p',h1,h2,h3,h4⟩:=ihm (h ++ [⟨(rd_T32 (mayOf th h) v).f0,(rd_T32 (mayOf th h) v).f1⟩]) (p + 1) (by rw [List.length_append,List.length_singleton];omega) (by omega) (by omega)
    refine ⟨h',p',h1,by omega,by omega,Ev.sb hm (fun k hk=>?_) (f:=fun k=>((spec_l6Rd_pick.f k s p ((mayOf th h).length:Int)).bind fun bt201=>(if 0 ≤ bt201.1 then (if bt201.1 < ((mayOf th h).length:Int) then (if h.length < 8796093022208 then (spec_l92History.l0 k th (h ++ [(⟨(rd_T32 (mayOf th h) bt201.1).f0,(rd_T32 (mayOf th h) bt201.1).f1⟩:S32)]) (wrap64 (((m + 1:Nat):Int) - 1)) s bt201.2) else (none)) else (none)) else (none)))) (Ev.cb hv (fun k hk=>?_) h4)⟩
    ·simp only [spec_l92History.l0]
     rw [if_pos (by omega),hk]
     simp only [Option.bind_some]
     rw [if_neg (by omega)]
    ·simp only [hk,Option.bind_some]
     rw [if_pos v0,if_pos v1,if_pos (by omega),wrap_pred (by omega) (by omega),show ((m + 1:Nat):Int) - 1 = (m:Int) by omega]
 obtain ⟨v,v0,v1,hv⟩:=pick_ev hs hp (by omega) (show (1:Int) ≤ 14 by omega)
 obtain ⟨c,rfl⟩:∃ c:Nat,v = (c:Int):=⟨v.toNat,by omega⟩
 obtain ⟨h',p',h5,h6,h7,h8⟩:=l0 c [] (p + 1) (by simp <;> omega) (by omega) (by omega)
 refine ⟨h',p',h5,by omega,by omega,Ev.cb hv (fun k hk=>?_) h8⟩
 simp only [spec_l92History.f,hk,Option.bind_some]
theorem u8_wf {x:Int} (h:(Lit.int .u8 x).wf = true):0 ≤ x∧x < 256:=by
 simp [Lit.wf] at h
 have h1:IntKind.u8.min = 0:=by decide
 have h2:IntKind.u8.max = 255:=by decide
 omega
theorem open_ev {l:List Int} (hb:∀ x,x ∈ l → (Lit.int .u8 x).wf = true):∃ s,Src s∧spec_l6Open.f l = some (s,0):=by
 by_cases h:(l.length:Int) > 2000
 ·refine ⟨l.take 2000,⟨fun x hx=>u8_wf (hb x (List.mem_of_mem_take hx)),by rw [List.length_take];omega⟩,?_⟩
  simp only [spec_l6Open.f]
  rw [if_pos h,if_pos (by omega)]
 ·refine ⟨l,⟨fun x hx=>u8_wf (hb x hx),by omega⟩,?_⟩
  simp only [spec_l6Open.f]
  rw [if_neg h]
end
end Go.Proofs.Ythljlnkanllpnaa.P
