/- Histories: what the program's and the reference's HistoryAt compute: one and the same. Plain; no condition. -/
import Derived.Test.YthljlnkanllpnaaP0
import Derived.Test.YthljlnkanllpnaaP1
import Derived.Test.YthljlnkanllpnaaHDo
import Derived.Test.YthljlnkanllpnaaHThr
import Derived.Test.YthljlnkanllpnaaBase
namespace Go.Proofs.Ythljlnkanllpnaa.P
open Go.RowKit Go.Proofs.YthljlnkanllpnaaW.PrintWords Go.Proofs.YthljlnkanllpnaaW.PrintLast Go.Proofs.YthljlnkanllpnaaW.PrintMore Go.Proofs.Ythljlnkanllpnaa.Any
set_option linter.unusedVariables false
set_option linter.unusedSimpArgs false
theorem l6In_f (a b c:Int):spec_l6In.f a b c = some (decide (b ≤ a) && decide (a ≤ c)):=by
 unfold spec_l6In.f
 by_cases h:a ≥ b
 ·rw [if_pos h]
  simp [show b ≤ a from h]
 ·rw [if_neg h]
  simp [show ¬ b ≤ a from h]
theorem specActOk_f (a:Int):spec_ActOk.f a = some (isAct a):=by
 unfold spec_ActOk.f
 rw [l6In_f]
 rfl
theorem rdL_nat (xs:List (List Int)) (i:Nat) (h:i < xs.length):rd_L2 xs (i:Int) = xs[i]:=by
 simp [rd_L2,List.getD_eq_getElem?_getD,List.getElem?_eq_getElem h]
theorem rdE_nat (xs:List S32) (i:Nat) (h:i < xs.length):rd_T32 xs (i:Int) = xs[i]:=by
 simp [rd_T32,List.getD_eq_getElem?_getD,List.getElem?_eq_getElem h]
def okRow (x:List Int):Bool:=decide (x.length ≤ 8) && x.all isAct
def okTh (th:List (List Int)):Bool:=decide (th.length ≤ 4) && th.all okRow
structure SmallTh (th:List (List Int)):Prop where
 len:th.length ≤ 1048576
 row:∀ x,x ∈ th → x.length ≤ 1048576
theorem all_not_any {α:Type} (q:α → Bool):∀ l:List α,l.any (fun x=>!q x) = !l.all q
 | []=>rfl
 | x :: xs=>by simp [all_not_any q xs,Bool.not_and]
theorem rowBad_eq (x:List Int):rowBad x = some (!okRow x):=by
 unfold rowBad okRow
 by_cases h:(x.length:Int) > 8
 ·rw [if_pos h]
  simp [show ¬ x.length ≤ 8 by omega]
 ·rw [if_neg h,anyOf_all x (q:=fun a=>!isAct a) (fun a _=>rfl),all_not_any]
  simp [show x.length ≤ 8 by omega]
theorem implThr_f (th:List (List Int)):impl_threadsOk.f th = some (okTh th):=by
 unfold impl_threadsOk.f okTh
 by_cases h:(th.length:Int) ≤ 4
 ·rw [if_pos h,anyOf_all th (q:=fun x=>!okRow x) (fun x _=>rowBad_eq x),all_not_any]
  simp [show th.length ≤ 4 by omega]
 ·rw [if_neg h]
  simp [show ¬ th.length ≤ 4 by omega]
theorem all_drop {α:Type} (q:α → Bool) {l:List α} {i:Nat} (h:i < l.length):(l.drop i).all q = (q l[i] && (l.drop (i + 1)).all q):=by
 rw [List.drop_eq_getElem_cons h]
 rfl
theorem specThr_ev {th:List (List Int)} (hs:SmallTh th):Ev (fun k=>spec_l19Threads.f k th) (okTh th):=by
 have hl:=hs.len
 have rows:∀ (d i:Nat),i + d = th.length → Ev (fun k=>spec_l19Threads.l0 k th i) ((th.drop i).all okRow):=by
  intro d
  induction d with
  | zero =>
   intro i hi
   rw [List.drop_eq_nil_of_le (by omega)]
   refine Ev.step (f:=fun _=>some true) (fun k=>?_) (Ev.now true)
   simp only [spec_l19Threads.l0]
   rw [if_neg (by omega)]
  | succ d ihd =>
   intro i hi
   have hil:i < th.length:=by omega
   have hrow:=hs.row th[i] (List.getElem_mem hil)
   have cols:∀ (e j:Nat),j + e = th[i].length → Ev (fun k=>spec_l19Threads.l1 k th i j) ((th[i].drop j).all isAct && (th.drop (i + 1)).all okRow):=by
    intro e
    induction e with
    | zero =>
     intro j hj
     refine Ev.step (fun k=>?_) (Ev.to (ihd (i + 1) (by omega)) (by rw [List.drop_eq_nil_of_le (show th[i].length ≤ j by omega)];simp))
     simp only [spec_l19Threads.l1]
     rw [if_pos (by omega),if_pos (by omega),rdL_nat _ _ hil,if_neg (by omega),wrap_succ hil (by omega)]
    | succ e ihe =>
     intro j hj
     have hjl:j < th[i].length:=by omega
     rw [all_drop isAct hjl]
     cases hact:isAct th[i][j] with
     | true =>
      refine Ev.step (fun k=>?_) (Ev.to (ihe (j + 1) (by omega)) (by simp))
      simp only [spec_l19Threads.l1]
      rw [if_pos (by omega),if_pos (by omega),rdL_nat _ _ hil,if_pos (by omega),if_pos (by omega),rd_nat _ _ hjl,specActOk_f,hact]
      simp only [Option.bind_some]
      rw [if_pos (by trivial),wrap_succ hjl (by omega)]
     | false =>
      refine Ev.step (f:=fun _=>some false) (fun k=>?_) (Ev.to (Ev.now false) (by simp))
      simp only [spec_l19Threads.l1]
      rw [if_pos (by omega),if_pos (by omega),rdL_nat _ _ hil,if_pos (by omega),if_pos (by omega),rd_nat _ _ hjl,specActOk_f,hact]
      simp
   rw [all_drop okRow hil]
   by_cases h8:(th[i].length:Int) > 8
   ·refine Ev.step (f:=fun _=>some false) (fun k=>?_) (Ev.to (Ev.now false) (by simp [okRow,show ¬ th[i].length ≤ 8 by omega]))
    simp only [spec_l19Threads.l0]
    rw [if_pos (by omega),if_pos (by omega),rdL_nat _ _ hil,if_pos h8]
   ·refine Ev.step (fun k=>?_) (Ev.to (cols th[i].length 0 (by omega)) (by simp [okRow,show th[i].length ≤ 8 by omega]))
    simp only [spec_l19Threads.l0]
    rw [if_pos (by omega),if_pos (by omega),rdL_nat _ _ hil,if_neg h8]
    rfl
 by_cases h4:(th.length:Int) > 4
 ·refine Ev.cb (Ev.now ()) (fun k _=>?_) (Ev.to (Ev.now false) (by simp [okTh,show ¬ th.length ≤ 4 by omega]))
  simp only [spec_l19Threads.f]
  rw [if_pos h4]
 ·refine Ev.cb (Ev.now ()) (fun k _=>?_) (Ev.to (rows th.length 0 (by omega)) (by simp [okTh,show th.length ≤ 4 by omega]))
  simp only [spec_l19Threads.f]
  rw [if_neg h4]
  rfl
def ready (th:List (List Int)) (at_:List Int) (k:Int):Bool:=decide (0 ≤ k) && (decide (k < (th.length:Int)) && decide (rd at_ k < ((rd_L2 th k).length:Int)))
def can (th:List (List Int)) (at_:List Int) (a b:Int):Bool :=
 ready th at_ a && (decide (b = -1) || ((decide (a < b) && ready th at_ b) && (decide (rd (rd_L2 th a) (rd at_ a) ≠ 0) && (rd (rd_L2 th a) (rd at_ a) == wrap64 (-(rd (rd_L2 th b) (rd at_ b)))))))
structure Far (th:List (List Int)) (at_:List Int):Prop where
 len:at_.length = th.length
 low:∀ k:Int,0 ≤ k → k < (th.length:Int) → 0 ≤ rd at_ k
 top:∀ k:Int,0 ≤ k → k < (th.length:Int) → rd at_ k ≤ ((rd_L2 th k).length:Int)
theorem ready_iff {th:List (List Int)} {at_:List Int} {k:Int}:ready th at_ k = true ↔ 0 ≤ k∧k < (th.length:Int)∧rd at_ k < ((rd_L2 th k).length:Int):=by
 simp [ready]
theorem implReady_f {th:List (List Int)} {at_:List Int} (hf:Far th at_) (a:Int):impl_ready.f a th at_ = some (ready th at_ a):=by
 have hl:=hf.len
 unfold impl_ready.f ready
 by_cases h0:a ≥ 0
 ·rw [if_pos h0]
  by_cases h1:a < (th.length:Int)
  ·rw [if_pos h1,if_pos (by omega),if_pos (by omega)]
   simp [show 0 ≤ a from h0,h1]
  ·rw [if_neg h1]
   simp [h1]
 ·rw [if_neg h0]
  simp [show ¬ 0 ≤ a from h0]
theorem implMay_f {th:List (List Int)} {at_:List Int} (hf:Far th at_) (a b:Int):impl_mayDo.f th at_ a b = some (can th at_ a b):=by
 have hl:=hf.len
 unfold impl_mayDo.f
 rw [implReady_f hf]
 simp only [Option.bind_some]
 unfold can
 cases hra:ready th at_ a with
 | false=>simp
 | true =>
  obtain ⟨a0,a1,a2⟩:=ready_iff.1 hra
  have a3:=hf.low a a0 a1
  rw [if_pos rfl]
  by_cases hb:b = -1
  ·rw [if_pos hb]
   simp [hb]
  ·rw [if_neg hb]
   by_cases hab:a ≥ b
   ·rw [if_pos hab]
    simp [hb,show ¬ a < b by omega]
   ·rw [if_neg hab,implReady_f hf]
    simp only [Option.bind_some]
    cases hrb:ready th at_ b with
    | false=>simp [hb]
    | true =>
     obtain ⟨b0,b1,b2⟩:=ready_iff.1 hrb
     have b3:=hf.low b b0 b1
     rw [if_pos rfl,if_pos a0,if_pos a1,if_pos (by omega),if_pos a3,if_pos a2,if_pos b0,if_pos b1,if_pos (by omega),if_pos b3,if_pos b2]
     by_cases hz:rd (rd_L2 th a) (rd at_ a) = 0
     ·rw [if_pos hz]
      simp [hb,hz]
     ·rw [if_neg hz]
      simp [hb,hz,show a < b by omega]
theorem specCan_ev {th:List (List Int)} {at_:List Int} (hs:SmallTh th) (hf:Far th at_) (a b:Int):Ev (fun k=>spec_l19Can.f k th at_ a b) (can th at_ a b):=by
 have hl:=hf.len
 have hs1:=hs.len
 have e1:wrap64 ((th.length:Int) - 1) = (th.length:Int) - 1:=wrap_id (by omega) (by omega)
 have no:Ev (fun k=>spec_l19Can.j0 k th at_ true a b) false:=Ev.step (f:=fun _=>some false) (fun k=>by simp only [spec_l19Can.j0];rw [if_pos (by trivial)]) (Ev.now false)
 cases hra:ready th at_ a with
 | false =>
  refine Ev.to (?_:Ev _ false) (by simp [can,hra])
  by_cases hin:(decide (0 ≤ a) && decide (a ≤ (th.length:Int) - 1)) = true
  ·have h0:0 ≤ a∧a ≤ (th.length:Int) - 1:=by simpa using hin
   refine Ev.cb (Ev.now ()) (fun k _=>?_) no
   simp only [spec_l19Can.f,e1]
   rw [l6In_f,hin]
   simp only [Option.bind_some]
   have h2:rd at_ a ≥ ((rd_L2 th a).length:Int):=by
    rcases Int.lt_or_le (rd at_ a) ((rd_L2 th a).length:Int) with h | h
    ·have:=ready_iff.2 ⟨h0.1,by omega,h⟩
     rw [hra] at this
     cases this
    ·exact h
   rw [if_pos (by trivial),if_pos h0.1,if_pos (by omega),if_pos (by omega),decide_eq_true h2]
  ·have hin':(decide (0 ≤ a) && decide (a ≤ (th.length:Int) - 1)) = false:=by simpa using hin
   refine Ev.cb (Ev.now ()) (fun k _=>?_) no
   simp only [spec_l19Can.f,e1]
   rw [l6In_f,hin']
   simp
 | true =>
  obtain ⟨a0,a1,a2⟩:=ready_iff.1 hra
  have a3:=hf.low a a0 a1
  have e2:wrap64 (a + 1) = a + 1:=wrap_id (by omega) (by omega)
  refine Ev.cb (Ev.now ()) (fun k _=>?_) (f:=fun k=>spec_l19Can.j0 k th at_ false a b) ?_
  ·simp only [spec_l19Can.f,e1]
   rw [l6In_f,show (decide (0 ≤ a) && decide (a ≤ (th.length:Int) - 1)) = true by simp;omega]
   simp only [Option.bind_some]
   rw [if_pos (by trivial),if_pos a0,if_pos (by omega),if_pos (by omega),decide_eq_false (show ¬ rd at_ a ≥ ((rd_L2 th a).length:Int) by omega)]
  ·refine Ev.step (f:=fun _=>some (can th at_ a b)) (fun k=>?_) (Ev.now _)
   simp only [spec_l19Can.j0,e1,e2]
   rw [if_neg (by simp)]
   unfold can
   rw [hra]
   by_cases hb:b = -1
   ·rw [if_pos hb]
    simp [hb]
   ·rw [if_neg hb,l6In_f]
    simp only [Option.bind_some]
    by_cases hab:(decide (a + 1 ≤ b) && decide (b ≤ (th.length:Int) - 1)) = true
    ·rw [hab]
     have h2:a + 1 ≤ b∧b ≤ (th.length:Int) - 1:=by simpa using hab
     have b3:=hf.low b (by omega) (by omega)
     rw [if_pos rfl,if_pos (by omega),if_pos (by omega),if_pos (by omega)]
     by_cases hr:rd at_ b ≥ ((rd_L2 th b).length:Int)
     ·rw [if_pos hr]
      have:ready th at_ b = false:=by
       cases hrb:ready th at_ b with
       | false=>rfl
       | true =>
        have:=(ready_iff.1 hrb).2.2
        omega
      simp [hb,this]
     ·rw [if_neg hr,if_pos a0,if_pos a1,if_pos (by omega),if_pos a3,if_pos a2]
      have hrb:ready th at_ b = true:=ready_iff.2 ⟨by omega,by omega,by omega⟩
      by_cases hz:rd (rd_L2 th a) (rd at_ a) = 0
      ·rw [if_pos hz]
       simp [hb,hz]
      ·rw [if_neg hz,if_pos b3,if_pos (by omega)]
       simp [hb,hz,hrb,show a < b by omega]
    ·rw [show (decide (a + 1 ≤ b) && decide (b ≤ (th.length:Int) - 1)) = false by simpa using hab]
     have:(decide (a < b) && ready th at_ b) = false:=by
      cases hrb:ready th at_ b with
      | false=>simp
      | true =>
       obtain ⟨b0,b1,b2⟩:=ready_iff.1 hrb
       have:¬ (a + 1 ≤ b∧b ≤ (th.length:Int) - 1):=by simpa using hab
       simp
       omega
     rw [this]
     simp [hb]
end Go.Proofs.Ythljlnkanllpnaa.P
