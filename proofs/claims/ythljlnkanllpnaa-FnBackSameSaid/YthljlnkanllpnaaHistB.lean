/- Histories: HistoryAt and HistoryOk of the program and of the reference: one and the same. Plain; no condition. -/
import Derived.Test.YthljlnkanllpnaaP0
import Derived.Test.YthljlnkanllpnaaP1
import Derived.Test.YthljlnkanllpnaaP3
import Derived.Test.YthljlnkanllpnaaHistA
namespace Go.Proofs.Ythljlnkanllpnaa.P
open Go.RowKit Go.Proofs.YthljlnkanllpnaaW.PrintWords Go.Proofs.YthljlnkanllpnaaW.PrintLast Go.Proofs.YthljlnkanllpnaaW.PrintMore Go.Proofs.Ythljlnkanllpnaa.Any
set_option linter.unusedVariables false
set_option linter.unusedSimpArgs false
def bump (at_:List Int) (k:Int):List Int:=at_.set k.toNat (rd at_ k + 1)
def stepAt (at_:List Int) (e:S32):List Int:=if e.f1 ≥ 0 then bump (bump at_ e.f0) e.f1 else bump at_ e.f0
def run (th:List (List Int)):List Int → List S32 → Option (List Int)
 | at_,[]=>some at_
 | at_,e :: es=>if can th at_ e.f0 e.f1 = true then run th (stepAt at_ e) es else none
def at0 (th:List (List Int)):List Int:=List.replicate th.length 0
def histAt (th:List (List Int)) (h:List S32):List Int × Bool :=
 if okTh th = true then (match run th (at0 th) h with
  | some at_=>(at_,true)
  | none=>([],false)) else ([],false)
theorem rd_bump {at_:List Int} {k:Int} (h0:0 ≤ k) (h1:k < (at_.length:Int)) (j:Int) (hj:0 ≤ j):rd (bump at_ k) j = if j = k then rd at_ k + 1 else rd at_ j:=by
 unfold bump rd
 simp only [List.getD_eq_getElem?_getD]
 by_cases h:j = k
 ·subst h
  rw [if_pos rfl,List.getElem?_set_self (by omega)]
  rfl
 ·rw [if_neg h,List.getElem?_set_ne (by omega)]
theorem bump_length (at_:List Int) (k:Int):(bump at_ k).length = at_.length:=by simp [bump]
theorem Far.bump {th:List (List Int)} {at_:List Int} (hf:Far th at_) {k:Int} (hr:ready th at_ k = true):Far th (bump at_ k):=by
 obtain ⟨h0,h1,h2⟩:=ready_iff.1 hr
 have hl:=hf.len
 refine ⟨by rw [bump_length,hl],fun j j0 j1=>?_,fun j j0 j1=>?_⟩
 ·rw [rd_bump h0 (by omega) j j0]
  have:=hf.low k h0 h1
  have:=hf.low j j0 j1
  split <;> omega
 ·rw [rd_bump h0 (by omega) j j0]
  have:=hf.top j j0 j1
  split
  ·rename_i h;subst h;omega
  ·omega
theorem can_ready {th:List (List Int)} {at_:List Int} {a b:Int} (h:can th at_ a b = true):ready th at_ a = true∧(b = -1 ∨ (a < b∧ready th at_ b = true)):=by
 unfold can at h
 simp only [Bool.and_eq_true,Bool.or_eq_true,decide_eq_true_eq] at h
 exact ⟨h.1,h.2.imp id (fun x=>x.1)⟩
theorem Far.step {th:List (List Int)} {at_:List Int} (hf:Far th at_) {e:S32} (h:can th at_ e.f0 e.f1 = true):Far th (stepAt at_ e):=by
 obtain ⟨ha,hb⟩:=can_ready h
 obtain ⟨a0,a1,a2⟩:=ready_iff.1 ha
 have hl:=hf.len
 unfold stepAt
 rcases hb with hb | ⟨hab,hb⟩
 ·rw [if_neg (by omega)]
  exact hf.bump ha
 ·obtain ⟨b0,b1,b2⟩:=ready_iff.1 hb
  rw [if_pos (by omega)]
  refine (hf.bump ha).bump (ready_iff.2 ⟨b0,b1,?_⟩)
  rw [rd_bump a0 (by omega) _ b0,if_neg (by omega)]
  exact b2
theorem rd_zeros (n:Nat) (k:Int):rd (List.replicate n 0) k = 0:=by
 unfold rd
 rw [List.getD_eq_getElem?_getD,List.getElem?_replicate]
 split <;> rfl
theorem far0 (th:List (List Int)):Far th (at0 th) :=
 ⟨by simp [at0],fun k _ _=>by unfold at0;rw [rd_zeros];omega,fun k _ _=>by unfold at0;rw [rd_zeros];omega⟩
theorem rowL_small {th:List (List Int)} (hs:SmallTh th) {k:Int} (h0:0 ≤ k) (h1:k < (th.length:Int)):((rd_L2 th k).length:Int) ≤ 1048576:=by
 obtain ⟨i,rfl⟩:∃ i:Nat,k = (i:Int):=⟨k.toNat,by omega⟩
 rw [rdL_nat _ _ (by omega)]
 have:=hs.row th[i] (List.getElem_mem (by omega))
 omega
def runD (th:List (List Int)) (at_:List Int) (h:List S32):List Int × Bool:=match run th at_ h with
 | some at_=>(at_,true)
 | none=>([],false)
theorem run_drop {th:List (List Int)} {at_:List Int} {h:List S32} {i:Nat} (hi:i < h.length):runD th at_ (h.drop i) = if can th at_ h[i].f0 h[i].f1 = true then runD th (stepAt at_ h[i]) (h.drop (i + 1)) else ([],false):=by
 rw [List.drop_eq_getElem_cons hi]
 unfold runD
 rw [run]
 by_cases hc:can th at_ h[i].f0 h[i].f1 = true
 ·rw [if_pos hc,if_pos hc]
 ·rw [if_neg hc,if_neg hc]
section
variable {th:List (List Int)} {h:List S32}
theorem stepIf {at_:List Int} (hs:SmallTh th) (hf:Far th at_) {e:S32} (hc:can th at_ e.f0 e.f1 = true) {R:List Int → Option (List Int × Bool)} :
  (if 0 ≤ e.f0 then (if e.f0 < (at_.length:Int) then ((some (at_.set (e.f0:Int).toNat (wrap64 ((rd at_ e.f0) + 1)):List Int)).bind fun y=>(if e.f1 ≥ 0 then (if 0 ≤ e.f1 then (if e.f1 < (at_.length:Int) then R (y.set (e.f1:Int).toNat (wrap64 ((rd y e.f1) + 1))) else none) else none) else R y)) else none) else none) = R (stepAt at_ e):=by
 obtain ⟨ha,hb⟩:=can_ready hc
 obtain ⟨a0,a1,a2⟩:=ready_iff.1 ha
 have hl:=hf.len
 have ra:=rowL_small hs a0 a1
 have la:=hf.low _ a0 a1
 rw [if_pos a0,if_pos (by omega)]
 simp only [Option.bind_some]
 rw [wrap_id (x:=rd at_ e.f0 + 1) (by omega) (by omega)]
 unfold stepAt
 rcases hb with hb | ⟨hab,hb⟩
 ·rw [if_neg (by omega),if_neg (by omega)]
  rfl
 ·obtain ⟨b0,b1,b2⟩:=ready_iff.1 hb
  have rb:=rowL_small hs b0 b1
  have lb:=hf.low _ b0 b1
  rw [if_pos (by omega),if_pos (by omega),if_pos (by omega),if_pos (by omega)]
  have e2:rd (at_.set (e.f0:Int).toNat (rd at_ e.f0 + 1)) e.f1 = rd at_ e.f1:=by
   have:=rd_bump a0 (show e.f0 < (at_.length:Int) by omega) e.f1 b0
   rw [if_neg (by omega)] at this
   exact this
  rw [e2,wrap_id (by omega) (by omega)]
  unfold bump
  rw [show rd (at_.set e.f0.toNat (rd at_ e.f0 + 1)) e.f1 = rd at_ e.f1 from e2]
theorem specLoop (hs:SmallTh th) (hh:h.length ≤ 1048576):∀ (d i:Nat) (at_:List Int),i + d = h.length → Far th at_ → Ev (fun k=>spec_l19At.l0 k th h at_ i) (runD th at_ (h.drop i)):=by
 intro d
 induction d with
 | zero =>
  intro i at_ hi hf
  rw [List.drop_eq_nil_of_le (by omega)]
  refine Ev.step (f:=fun _=>some (at_,true)) (fun k=>?_) (Ev.now _)
  simp only [spec_l19At.l0]
  rw [if_neg (by omega)]
 | succ d ihd =>
  intro i at_ hi hf
  have hil:i < h.length:=by omega
  rw [run_drop hil]
  cases hc:can th at_ h[i].f0 h[i].f1 with
  | false =>
   refine Ev.sb (specCan_ev hs hf h[i].f0 h[i].f1) (fun k hk=>?_) (f:=fun _=>some ([],false)) (Ev.to (Ev.now _) (by rw [if_neg (by simp)]))
   simp only [spec_l19At.l0]
   rw [if_pos (by omega),if_pos (by omega),rdE_nat _ _ hil,hk,hc]
   simp
  | true =>
   refine Ev.sb (specCan_ev hs hf h[i].f0 h[i].f1) (fun k hk=>?_) (Ev.to (ihd (i + 1) (stepAt at_ h[i]) (by omega) (hf.step hc)) (by rw [if_pos rfl]))
   simp only [spec_l19At.l0]
   rw [if_pos (by omega),if_pos (by omega),rdE_nat _ _ hil,hk,hc]
   simp only [Option.bind_some (a:=true)]
   rw [if_pos (by trivial),wrap_succ hil (by omega)]
   exact stepIf (R:=fun y=>spec_l19At.l0 k th h y ((i + 1:Nat):Int)) hs hf hc
theorem implLoop (hs:SmallTh th) (hh:h.length ≤ 1048576):∀ (d i:Nat) (at_:List Int),i + d = h.length → Far th at_ → Ev (fun k=>impl_HistoryAt.l0 k th at_ h h.length i) (runD th at_ (h.drop i)):=by
 intro d
 induction d with
 | zero =>
  intro i at_ hi hf
  rw [List.drop_eq_nil_of_le (by omega)]
  refine Ev.step (f:=fun _=>some (at_,true)) (fun k=>?_) (Ev.now _)
  simp only [impl_HistoryAt.l0]
  rw [if_neg (by omega)]
 | succ d ihd =>
  intro i at_ hi hf
  have hil:i < h.length:=by omega
  rw [run_drop hil]
  cases hc:can th at_ h[i].f0 h[i].f1 with
  | false =>
   refine Ev.step (fun k=>?_) (f:=fun _=>some ([],false)) (Ev.to (Ev.now _) (by rw [if_neg (by simp)]))
   simp only [impl_HistoryAt.l0]
   rw [if_pos (by omega),if_pos (by omega),if_pos (by omega),rdE_nat _ _ hil,implMay_f hf,hc]
   simp
  | true =>
   refine Ev.step (fun k=>?_) (Ev.to (ihd (i + 1) (stepAt at_ h[i]) (by omega) (hf.step hc)) (by rw [if_pos rfl]))
   simp only [impl_HistoryAt.l0]
   rw [if_pos (by omega),if_pos (by omega),if_pos (by omega),rdE_nat _ _ hil,implMay_f hf,hc]
   simp only [Option.bind_some (a:=true)]
   rw [if_pos (by trivial),wrap_succ hil (by omega)]
   exact stepIf (R:=fun y=>impl_HistoryAt.l0 k th y h h.length ((i + 1:Nat):Int)) hs hf hc
theorem specAt_ev (hs:SmallTh th) (hh:h.length ≤ 1048576):Ev (fun k=>spec_HistoryAt.f k th h) (histAt th h):=by
 have hs1:=hs.len
 unfold histAt
 cases hok:okTh th with
 | false =>
  refine Ev.cb (specThr_ev hs) (fun k hk=>?_) (f:=fun _=>some ([],false)) (Ev.to (Ev.now _) (by rw [if_neg (by simp)]))
  simp only [spec_HistoryAt.f,hk,hok]
  simp
 | true =>
  have hl:=specLoop hs hh h.length 0 (at0 th) (by omega) (far0 th)
  rw [List.drop_zero] at hl
  have hat:Ev (fun k=>spec_l19At.f k th h) (runD th (at0 th) h):=by
   refine Ev.cb hl (fun k hk=>?_) (Ev.now _)
   simp only [spec_l19At.f]
   rw [if_pos (by omega),if_pos (by omega)]
   exact hk
  refine Ev.cb (specThr_ev hs) (fun k hk=>?_) (f:=fun k=>(spec_l19At.f k th h).bind fun bt=>some (bt.1,bt.2)) (Ev.cb hat (fun k hk=>by rw [hk];rfl) (Ev.to (Ev.now (runD th (at0 th) h)) (by rw [if_pos rfl];rfl)))
  simp only [spec_HistoryAt.f,hk,hok,Option.bind_some]
  rw [if_pos (by trivial)]
theorem implAt_ev (hs:SmallTh th) (hh:h.length ≤ 1048576):Ev (fun k=>impl_HistoryAt.f k th h) (histAt th h):=by
 have hs1:=hs.len
 unfold histAt
 cases hok:okTh th with
 | false =>
  refine Ev.cb (Ev.now ()) (fun k hk=>?_) (f:=fun _=>some ([],false)) (Ev.to (Ev.now _) (by rw [if_neg (by simp)]))
  simp only [impl_HistoryAt.f,implThr_f,hok]
  simp
 | true =>
  have hl:=implLoop hs hh h.length 0 (at0 th) (by omega) (far0 th)
  rw [List.drop_zero] at hl
  refine Ev.cb hl (fun k hk=>?_) (Ev.to (Ev.now (runD th (at0 th) h)) (by rw [if_pos rfl];rfl))
  simp only [impl_HistoryAt.f,implThr_f,hok,Option.bind_some]
  rw [if_pos (by trivial),if_pos (by omega),if_pos (by omega)]
  exact hk
end
end Go.Proofs.Ythljlnkanllpnaa.P
