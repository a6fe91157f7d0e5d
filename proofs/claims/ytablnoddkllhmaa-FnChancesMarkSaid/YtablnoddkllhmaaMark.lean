/- Chances of a mark: what the program and the reference compute: one and the same. Plain; no condition. -/
import Derived.Test.YtablnoddkllhmaaP0
import Derived.Test.YtablnoddkllhmaaP2
import Derived.Test.YtablnoddkllhmaaAfter
namespace Go.Proofs.Ytablnoddkllhmaa.P
open Go.RowKit Go.Proofs.YtablnoddkllhmaaW.PrintWords Go.Proofs.YtablnoddkllhmaaW.PrintLast
set_option linter.unusedVariables false
set_option linter.unusedSimpArgs false
def smA (m:List Int) (mark:Int) (x:List Int):Nat → Nat → Int → Int
 | 0,_,a=>a
 | d + 1,t,a=>smA m mark x d (t + 1) (if rd m t = mark then wrap64 (a + rd x t) else a)
def smP (m:List Int) (mark:Int) (x:List Int):Int:=smA m mark x x.length 0 0
def mkL (m:List Int) (ws:List (List Int)) (mark:Int) (b:List Int):Nat → Nat → List Int → List Int
 | 0,_,out=>out
 | d + 1,k,out=>mkL m ws mark b d (k + 1) (out ++ [smP m mark (stepsP ws k b)])
theorem mkL_length (m:List Int) (ws:List (List Int)) (mark:Int) (b:List Int):∀ (d k:Nat) (out:List Int),(mkL m ws mark b d k out).length = out.length + d
 | 0,_,_=>rfl
 | d + 1,k,out=>by rw [mkL,mkL_length m ws mark b d];simp;omega
theorem specMk_l1 {m:List Int} {ws:List (List Int)} {s n mark:Int} {x:List Int} {kk:Nat} (hx:x.length = m.length) (hm:m.length ≤ 60) {out:List Int} (ho:out.length ≤ 100) {r:List Int × Bool} (d:Nat):∀ (t:Nat) (a:Int),t + d = x.length →
  Ev (fun k=>spec_ChancesMark.l0 k s n mark (out ++ [smA m mark x d t a]) (wrap64 ((kk:Int) + 1)) m ws) r → Ev (fun k=>spec_ChancesMark.l1 k s n mark out kk x a t m ws) r:=by
 induction d with
 | zero =>
  intro t a ht h
  refine Ev.step (fun k=>?_) h
  simp only [spec_ChancesMark.l1]
  rw [if_neg (by omega),if_pos (by omega)]
  rfl
 | succ d ih =>
  intro t a ht h
  by_cases e:rd m t = mark
  ·refine Ev.step (fun k=>?_) (ih (t + 1) (wrap64 (a + rd x t)) (by omega) (by rw [smA,if_pos e] at h;exact h))
   simp only [spec_ChancesMark.l1]
   rw [if_pos (by omega),if_pos (by omega),if_pos (by omega),if_pos e,wrap_succ (show t < x.length by omega) (by omega)]
  ·refine Ev.step (fun k=>?_) (ih (t + 1) a (by omega) (by rw [smA,if_neg e] at h;exact h))
   simp only [spec_ChancesMark.l1]
   rw [if_pos (by omega),if_pos (by omega),if_pos (by omega),if_neg e,wrap_succ (show t < x.length by omega) (by omega)]
theorem specMk_l0 {m:List Int} {ws:List (List Int)} {s N:Nat} {mark:Int} (hr:Rows ws m.length) (hs:s < m.length) (hN:N ≤ 12) (d:Nat):∀ (kk:Nat) (out:List Int),kk + d = N + 1 → out.length = kk →
  Ev (fun k=>spec_ChancesMark.l0 k s N mark out kk m ws) (mkL m ws mark (beginP m.length s) d kk out,true):=by
 induction d with
 | zero =>
  intro kk out hk ho
  refine Ev.step (f:=fun _=>some (out,true)) (fun k=>?_) (Ev.now _)
  simp only [spec_ChancesMark.l0]
  rw [if_neg (by omega)]
 | succ d ih =>
  intro kk out hk ho
  have hx:(stepsP ws kk (beginP m.length s)).length = m.length:=by rw [stepsP_length,beginP_length]
  have hn:=ih (kk + 1) (out ++ [smP m mark (stepsP ws kk (beginP m.length s))]) (by omega) (by simp;omega)
  refine Ev.sb (specAfter_ev (m:=m) (N:=kk) hr hs (by omega)) (fun k h=>?_) (specMk_l1 (m:=m) (ws:=ws) (s:=(s:Int)) (n:=(N:Int)) (mark:=mark) (kk:=kk) (out:=out) hx hr.le (by omega) m.length 0 0 (by omega) ?_)
  ·simp only [spec_ChancesMark.l0]
   rw [if_pos (by omega),h]
   rfl
  ·rw [wrap_succ (show kk < N + 1 by omega) (by omega)]
   rw [smP,hx] at hn
   rw [mkL,smP,hx]
   exact hn
theorem implMk_l1 {m:List Int} {ws:List (List Int)} {n mark:Int} {x:List Int} {kk:Nat} (hx:x.length = m.length) (hm:m.length ≤ 60) {out:List Int} (ho:out.length ≤ 100) {r:List Int × Bool} (d:Nat):∀ (t:Nat) (a:Int),t + d = x.length →
  Ev (fun k=>impl_ChancesMark.l0 k n mark (out ++ [smA m mark x d t a]) x (wrap64 ((kk:Int) + 1)) m ws) r → Ev (fun k=>impl_ChancesMark.l1 k n mark out x kk a x x.length t m ws) r:=by
 induction d with
 | zero =>
  intro t a ht h
  refine Ev.step (fun k=>?_) h
  simp only [impl_ChancesMark.l1]
  rw [if_neg (by omega),if_pos (by omega)]
  rfl
 | succ d ih =>
  intro t a ht h
  by_cases e:rd m t = mark
  ·refine Ev.step (fun k=>?_) (ih (t + 1) (wrap64 (a + rd x t)) (by omega) (by rw [smA,if_pos e] at h;exact h))
   simp only [impl_ChancesMark.l1]
   rw [if_pos (by omega),if_pos (by omega),if_pos (by omega),if_pos (by omega),if_pos e,wrap_succ (show t < x.length by omega) (by omega)]
  ·refine Ev.step (fun k=>?_) (ih (t + 1) a (by omega) (by rw [smA,if_neg e] at h;exact h))
   simp only [impl_ChancesMark.l1]
   rw [if_pos (by omega),if_pos (by omega),if_pos (by omega),if_pos (by omega),if_neg e,wrap_succ (show t < x.length by omega) (by omega)]
theorem implMk_j2 {m:List Int} {ws:List (List Int)} {n mark:Int} {x:List Int} {kk:Nat} (hx:x.length = m.length) (hm:m.length ≤ 60) {out:List Int} (ho:out.length ≤ 100) {r:List Int × Bool}
  (h:Ev (fun k=>impl_ChancesMark.l0 k n mark (out ++ [smP m mark x]) x (wrap64 ((kk:Int) + 1)) m ws) r):Ev (fun k=>impl_ChancesMark.j2 k n mark out x kk m ws) r:=by
 refine Ev.step (fun k=>?_) (implMk_l1 (m:=m) (ws:=ws) (n:=n) (mark:=mark) (kk:=kk) hx hm ho x.length 0 0 (by omega) h)
 simp only [impl_ChancesMark.j2]
 rfl
theorem implMk_l0 {m:List Int} {ws:List (List Int)} {s N:Nat} {mark:Int} (hr:Rows ws m.length) (hs:s < m.length) (hN:N ≤ 12) (d:Nat):∀ (kk:Nat) (out:List Int),kk + 1 + d = N + 1 → out.length = kk + 1 →
  Ev (fun k=>impl_ChancesMark.l0 k N mark out (stepsP ws kk (beginP m.length s)) ((kk + 1:Nat):Int) m ws) (mkL m ws mark (beginP m.length s) d (kk + 1) out,true):=by
 induction d with
 | zero =>
  intro kk out hk ho
  refine Ev.step (f:=fun _=>some (out,true)) (fun k=>?_) (Ev.now _)
  simp only [impl_ChancesMark.l0]
  rw [if_neg (by omega)]
 | succ d ih =>
  intro kk out hk ho
  have hx:(stepsP ws kk (beginP m.length s)).length = m.length:=by rw [stepsP_length,beginP_length]
  have hx1:(stepsP ws (kk + 1) (beginP m.length s)).length = m.length:=by rw [stepsP_length,beginP_length]
  have hn:=ih (kk + 1) (out ++ [smP m mark (stepsP ws (kk + 1) (beginP m.length s))]) (by omega) (by simp;omega)
  refine Ev.sb (implSpread_ev (m:=m) hr hx) (fun k h=>?_) (implMk_j2 (m:=m) (ws:=ws) (n:=(N:Int)) (mark:=mark) (kk:=kk + 1) (out:=out) hx1 hr.le (by omega) ?_)
  ·simp only [impl_ChancesMark.l0]
   rw [if_pos (by omega),if_pos (by omega),h,stepsP_succ]
   rfl
  ·rw [wrap_succ (show kk + 1 < N + 1 by omega) (by omega)]
   exact hn
def markP (m:List Int) (ws:List (List Int)) (s n mark:Int):List Int × Bool :=
 if (askP m ws s n && (decide (0 ≤ mark) && decide (mark ≤ 9))) = true then (mkL m ws mark (beginP m.length s.toNat) (n.toNat + 1) 0 [],true) else ([],false)
theorem implMark_ev (m:List Int) (ws:List (List Int)) (s n mark:Int):Ev (fun k=>impl_ChancesMark.f k m ws s n mark) (markP m ws s n mark):=by
 have bad:Ev (fun k=>impl_ChancesMark.j0 k s n mark true m ws) ([],false):=Ev.step (f:=fun _=>some ([],false)) (fun k=>by simp only [impl_ChancesMark.j0];rw [if_pos trivial]) (Ev.now _)
 cases h:askP m ws s n with
 | false =>
  refine Ev.cb (implAsk_ev m ws s n) (fun k hk=>?_) (Ev.to bad (by simp [markP,h]))
  simp only [impl_ChancesMark.f]
  rw [hk,h]
  simp
 | true =>
  by_cases h1:mark < 0
  ·refine Ev.cb (implAsk_ev m ws s n) (fun k hk=>?_) (Ev.to bad (by simp [markP,h,show ¬ 0 ≤ mark by omega]))
   simp only [impl_ChancesMark.f]
   rw [hk,h]
   simp only [Option.bind_some]
   rw [if_pos trivial,if_pos h1]
  ·by_cases h2:mark > 9
   ·refine Ev.cb (implAsk_ev m ws s n) (fun k hk=>?_) (Ev.to bad (by simp [markP,h,show ¬ mark ≤ 9 by omega]))
    simp only [impl_ChancesMark.f]
    rw [hk,h]
    simp only [Option.bind_some]
    rw [if_pos trivial,if_neg h1,decide_eq_true h2]
   ·obtain ⟨hr,a,b,rfl,rfl,ha,hb⟩:=ask_of h
    have hl:=implMk_l0 (mark:=mark) hr ha hb b 0 [smP m mark (stepsP ws 0 (beginP m.length a))] (by omega) (by simp)
    refine Ev.cb (implAsk_ev m ws a b) (fun k hk=>?_) (Ev.step (f:=fun k=>impl_ChancesMark.l0 k b mark [] (beginP m.length a) 0 m ws) (g:=fun k=>impl_ChancesMark.j0 k a b mark false m ws) (fun k=>?_) (Ev.step (fun k=>?_) (implMk_j2 (m:=m) (ws:=ws) (n:=(b:Int)) (mark:=mark) (x:=beginP m.length a) (kk:=0) (out:=[]) (by rw [beginP_length]) hr.le (by simp) ?_)))
    rotate_left 3
    ·rw [wrap_id (by omega) (by omega)]
     refine Ev.to hl ?_
     simp [markP,h,show 0 ≤ mark by omega,show mark ≤ 9 by omega,mkL]
    ·simp only [impl_ChancesMark.f]
     rw [hk,h]
     simp only [Option.bind_some]
     rw [if_pos trivial,if_neg h1,decide_eq_false h2]
    ·simp only [impl_ChancesMark.j0]
     rw [if_neg (by simp),implBegin_f hr.le ha]
     rfl
    ·simp only [impl_ChancesMark.l0]
     rw [if_pos (by omega),if_neg (by omega)]
     rfl
theorem specMark_ev (m:List Int) (ws:List (List Int)) (s n mark:Int):Ev (fun k=>spec_ChancesMark.f k m ws s n mark) (markP m ws s n mark):=by
 have bad:Ev (fun k=>spec_ChancesMark.j0 k s n mark true m ws) ([],false):=Ev.step (f:=fun _=>some ([],false)) (fun k=>by simp only [spec_ChancesMark.j0];rw [if_pos trivial]) (Ev.now _)
 cases h:askP m ws s n with
 | false =>
  refine Ev.cb (specAsk_ev m ws s n) (fun k hk=>?_) (Ev.to bad (by simp [markP,h]))
  simp only [spec_ChancesMark.f]
  rw [hk,h]
  simp
 | true =>
  cases h1:decide (0 ≤ mark) && decide (mark ≤ 9) with
  | false =>
   refine Ev.cb (specAsk_ev m ws s n) (fun k hk=>?_) (Ev.to bad (by simp only [markP,h,h1];simp))
   simp only [spec_ChancesMark.f]
   rw [hk,h]
   simp only [Option.bind_some]
   rw [if_pos trivial,l6In_f,h1]
   rfl
  | true =>
   obtain ⟨hr,a,b,rfl,rfl,ha,hb⟩:=ask_of h
   have hl:=specMk_l0 (mark:=mark) hr ha hb (b + 1) 0 [] (by omega) (by simp)
   refine Ev.cb (specAsk_ev m ws a b) (fun k hk=>?_) (Ev.step (f:=fun k=>spec_ChancesMark.l0 k a b mark [] 0 m ws) (g:=fun k=>spec_ChancesMark.j0 k a b mark false m ws) (fun k=>?_) (Ev.to hl ?_))
   ·simp only [spec_ChancesMark.f]
    rw [hk,h]
    simp only [Option.bind_some]
    rw [if_pos trivial,l6In_f,h1]
    rfl
   ·simp only [spec_ChancesMark.j0]
    rw [if_neg (by simp)]
   ·simp only [markP,h,h1]
    simp
theorem markP_length (m:List Int) (ws:List (List Int)) (s n mark:Int):(markP m ws s n mark).1.length ≤ 60:=by
 unfold markP
 by_cases h:(askP m ws s n && (decide (0 ≤ mark) && decide (mark ≤ 9))) = true
 ·rw [if_pos h]
  obtain ⟨hr,a,b,rfl,rfl,ha,hb⟩:=ask_of (Bool.and_eq_true_iff.1 h).1
  rw [mkL_length]
  simp
  omega
 ·rw [if_neg h]
  simp
end Go.Proofs.Ytablnoddkllhmaa.P
