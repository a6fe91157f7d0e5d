/- Histories: HistoryMay of the program and of the reference: one and the same. Plain; no condition. -/
import Derived.Test.YthljlnkanllpnaaP0
import Derived.Test.YthljlnkanllpnaaP1
import Derived.Test.YthljlnkanllpnaaHistR
namespace Go.Proofs.Ythljlnkanllpnaa.P
open Go.RowKit Go.Proofs.YthljlnkanllpnaaW.PrintWords Go.Proofs.YthljlnkanllpnaaW.PrintLast Go.Proofs.YthljlnkanllpnaaW.PrintMore Go.Proofs.Ythljlnkanllpnaa.Any
set_option linter.unusedVariables false
set_option linter.unusedSimpArgs false
def ones (th:List (List Int)) (at_:List Int):Nat → Nat → List S32
 | 0,_=>[]
 | d + 1,i=>(if can th at_ i (-1) = true then [⟨i,-1⟩] else []) ++ ones th at_ d (i + 1)
def twos (th:List (List Int)) (at_:List Int) (a:Nat):Nat → Nat → List S32
 | 0,_=>[]
 | d + 1,j=>(if can th at_ a j = true then [⟨a,j⟩] else []) ++ twos th at_ a d (j + 1)
def pairs (th:List (List Int)) (at_:List Int):Nat → Nat → List S32
 | 0,_=>[]
 | d + 1,i=>twos th at_ i (th.length - (i + 1)) (i + 1) ++ pairs th at_ d (i + 1)
def mayAt (th:List (List Int)) (at_:List Int):List S32:=ones th at_ th.length 0 ++ pairs th at_ th.length 0
def mayOf (th:List (List Int)) (h:List S32):List S32:=if (histAt th h).2 = true then mayAt th (histAt th h).1 else []
theorem ones_len (th:List (List Int)) (at_:List Int):∀ d i,(ones th at_ d i).length ≤ d
 | 0,_=>by simp [ones]
 | d + 1,i=>by
  have:=ones_len th at_ d (i + 1)
  rw [ones,List.length_append]
  split <;> simp <;> omega
theorem twos_len (th:List (List Int)) (at_:List Int) (a:Nat):∀ d j,(twos th at_ a d j).length ≤ d
 | 0,_=>by simp [twos]
 | d + 1,j=>by
  have:=twos_len th at_ a d (j + 1)
  rw [twos,List.length_append]
  split <;> simp <;> omega
theorem pairs_len (th:List (List Int)) (at_:List Int):∀ d i,(pairs th at_ d i).length ≤ d * th.length
 | 0,_=>by simp [pairs]
 | d + 1,i=>by
  have h1:=pairs_len th at_ d (i + 1)
  have h2:=twos_len th at_ i (th.length - (i + 1)) (i + 1)
  rw [pairs,List.length_append,Nat.succ_mul]
  omega
theorem okTh_len {th:List (List Int)} (h:okTh th = true):th.length ≤ 4:=by
 unfold okTh at h
 simp only [Bool.and_eq_true,decide_eq_true_eq] at h
 exact h.1
theorem mayOf_len (th:List (List Int)) (h:List S32):(mayOf th h).length ≤ 20:=by
 unfold mayOf
 by_cases ho:(histAt th h).2 = true
 ·rw [if_pos ho]
  have h4:=okTh_len (histAt_ok ho).1
  have h1:=ones_len th (histAt th h).1 th.length 0
  have h2:=pairs_len th (histAt th h).1 th.length 0
  have h3:th.length * th.length ≤ 4 * 4:=Nat.mul_le_mul h4 h4
  unfold mayAt
  rw [List.length_append]
  omega
 ·rw [if_neg ho]
  simp
section
variable {th:List (List Int)}
theorem specMay_ev {h:List S32} (hs:SmallTh th) (hh:h.length ≤ 1048576):Ev (fun k=>spec_HistoryMay.f k th h) (mayOf th h):=by
 have hat:=specAt_ev hs hh
 unfold mayOf
 by_cases ho:(histAt th h).2 = true
 ·obtain ⟨hok,hrun⟩:=histAt_ok ho
  have hf:=run_far h (far0 th) hrun
  have h4:=okTh_len hok
  rw [if_pos ho]
  obtain ⟨a,ha⟩:∃ a,a = (histAt th h).1:=⟨_,rfl⟩
  rw [← ha] at hf ⊢
  have l2:∀ (d:Nat) (i j:Nat) (acc:List S32) (r:List S32),j + d = th.length → acc.length + d < 1000 →
    (∀ acc':List S32,acc'.length ≤ acc.length + d → acc' = acc ++ twos th a i d j → Ev (fun k=>spec_HistoryMay.l1 k th acc' a ((i + 1:Nat):Int)) r) → i < th.length →
    Ev (fun k=>spec_HistoryMay.l2 k th acc a i j) r:=by
   intro d
   induction d with
   | zero =>
    intro i j acc r hj hl hk hi
    refine Ev.step (fun k=>?_) (hk acc (by omega) (by simp [twos]))
    simp only [spec_HistoryMay.l2]
    rw [if_neg (by omega),wrap_succ hi (by omega)]
   | succ d ihd =>
    intro i j acc r hj hl hk hi
    cases hc:can th a i j with
    | false =>
     refine Ev.sb (specCan_ev hs hf i j) (fun k hk'=>?_) (ihd i (j + 1) acc r (by omega) (by omega) (fun acc' h1 h2=>hk acc' (by omega) (by rw [h2,twos,hc,if_neg (by simp),List.nil_append])) hi)
     simp only [spec_HistoryMay.l2]
     rw [if_pos (by omega),hk',hc]
     simp only [Option.bind_some]
     rw [if_neg (by simp),wrap_succ (n:=th.length) (by omega) (by omega)]
    | true =>
     refine Ev.sb (specCan_ev hs hf i j) (fun k hk'=>?_) (ihd i (j + 1) (acc ++ [⟨i,j⟩]) r (by omega) (by rw [List.length_append,List.length_singleton];omega) (fun acc' h1 h2=>hk acc' (by rw [List.length_append,List.length_singleton] at h1;omega) (by rw [h2,twos,hc,if_pos rfl,List.append_assoc])) hi)
     simp only [spec_HistoryMay.l2]
     rw [if_pos (by omega),hk',hc]
     simp only [Option.bind_some]
     rw [if_pos (by trivial),if_pos (by omega),wrap_succ (n:=th.length) (by omega) (by omega)]
  have l1:∀ (d i:Nat) (acc:List S32),i + d = th.length → acc.length + 4 * d < 900 → Ev (fun k=>spec_HistoryMay.l1 k th acc a i) (acc ++ pairs th a d i):=by
   intro d
   induction d with
   | zero =>
    intro i acc hi hl
    refine Ev.step (f:=fun _=>some acc) (fun k=>?_) (Ev.to (Ev.now acc) (by simp [pairs]))
    simp only [spec_HistoryMay.l1]
    rw [if_neg (by omega)]
   | succ d ihd =>
    intro i acc hi hl
    refine Ev.step (fun k=>?_) (l2 (th.length - (i + 1)) i (i + 1) acc (acc ++ pairs th a (d + 1) i) (by omega) (by omega) (fun acc' h1 h2=>Ev.to (ihd (i + 1) acc' (by omega) (by omega)) (by rw [h2,pairs,List.append_assoc])) (by omega))
    simp only [spec_HistoryMay.l1]
    rw [if_pos (by omega),wrap_succ (n:=th.length) (by omega) (by omega)]
  have l0:∀ (d i:Nat) (acc:List S32),i + d = th.length → acc.length + d ≤ 100 → Ev (fun k=>spec_HistoryMay.l0 k th acc a i) (acc ++ (ones th a d i ++ pairs th a th.length 0)):=by
   intro d
   induction d with
   | zero =>
    intro i acc hi hl
    refine Ev.step (fun k=>?_) (Ev.to (l1 th.length 0 acc (by omega) (by omega)) (by simp [ones]))
    simp only [spec_HistoryMay.l0]
    rw [if_neg (by omega)]
    rfl
   | succ d ihd =>
    intro i acc hi hl
    cases hc:can th a i (-1) with
    | false =>
     refine Ev.sb (specCan_ev hs hf i (-1)) (fun k hk'=>?_) (Ev.to (ihd (i + 1) acc (by omega) (by omega)) (by rw [ones,hc,if_neg (by simp),List.nil_append]))
     simp only [spec_HistoryMay.l0]
     rw [if_pos (by omega),hk',hc]
     simp only [Option.bind_some]
     rw [if_neg (by simp),wrap_succ (n:=th.length) (by omega) (by omega)]
    | true =>
     refine Ev.sb (specCan_ev hs hf i (-1)) (fun k hk'=>?_) (Ev.to (ihd (i + 1) (acc ++ [⟨i,-1⟩]) (by omega) (by rw [List.length_append,List.length_singleton];omega)) (by rw [ones,hc,if_pos rfl,List.append_assoc,List.append_assoc]))
     simp only [spec_HistoryMay.l0]
     rw [if_pos (by omega),hk',hc]
     simp only [Option.bind_some]
     rw [if_pos (by trivial),if_pos (by omega),wrap_succ (n:=th.length) (by omega) (by omega)]
  refine Ev.cb hat (fun k hk=>?_) (l0 th.length 0 [] (by omega) (by simp;omega))
  simp only [spec_HistoryMay.f,hk,Option.bind_some]
  rw [if_pos ho,ha]
  rfl
 ·rw [if_neg ho]
  refine Ev.cb hat (fun k hk=>?_) (Ev.now [])
  simp only [spec_HistoryMay.f,hk,Option.bind_some]
  rw [if_neg ho]
end
end Go.Proofs.Ythljlnkanllpnaa.P
