/- Chances of some steps: what the program and the reference compute: one and the same. Plain; no condition. -/
import Derived.Test.YtablnoddkllhmaaP0
import Derived.Test.YtablnoddkllhmaaP1
import Derived.Test.YtablnoddkllhmaaChRows
namespace Go.Proofs.Ytablnoddkllhmaa.P
open Go.RowKit Go.Proofs.YtablnoddkllhmaaW.PrintWords Go.Proofs.YtablnoddkllhmaaW.PrintLast
set_option linter.unusedVariables false
set_option linter.unusedSimpArgs false
def spA (row:List Int) (x:Int):Nat → Nat → List Int → List Int
 | 0,_,out=>out
 | d + 1,t,out=>spA row x d (t + 1) (out.set t (wrap64 (rd out t + wrap64 (x * rd row t))))
def spB (ws:List (List Int)) (now:List Int):Nat → Nat → List Int → List Int
 | 0,_,out=>out
 | d + 1,s,out=>spB ws now d (s + 1) (spA (rd_L1 ws s) (rd now s) now.length 0 out)
def spreadP (ws:List (List Int)) (now:List Int):List Int:=spB ws now now.length 0 (List.replicate now.length 0)
def stepsP (ws:List (List Int)):Nat → List Int → List Int
 | 0,x=>x
 | k + 1,x=>stepsP ws k (spreadP ws x)
def beginP (n s:Nat):List Int:=(List.replicate n 0).set s 1
theorem spA_length (row:List Int) (x:Int):∀ (d t:Nat) (out:List Int),(spA row x d t out).length = out.length
 | 0,_,_=>rfl
 | d + 1,t,out=>by rw [spA,spA_length row x d,List.length_set]
theorem spB_length (ws:List (List Int)) (now:List Int):∀ (d s:Nat) (out:List Int),(spB ws now d s out).length = out.length
 | 0,_,_=>rfl
 | d + 1,s,out=>by rw [spB,spB_length ws now d,spA_length]
theorem spreadP_length (ws:List (List Int)) (now:List Int):(spreadP ws now).length = now.length:=by rw [spreadP,spB_length,List.length_replicate]
theorem stepsP_succ (ws:List (List Int)):∀ (k:Nat) (x:List Int),stepsP ws (k + 1) x = spreadP ws (stepsP ws k x)
 | 0,_=>rfl
 | k + 1,x=>by rw [stepsP,stepsP_succ ws k,stepsP]
theorem stepsP_length (ws:List (List Int)):∀ (k:Nat) (x:List Int),(stepsP ws k x).length = x.length
 | 0,_=>rfl
 | k + 1,x=>by rw [stepsP,stepsP_length ws k,spreadP_length]
theorem beginP_length (n s:Nat):(beginP n s).length = n:=by simp [beginP]
theorem implSp_l1 {m now:List Int} {ws:List (List Int)} {row:List Int} {n s:Nat} {x:Int} {r:List Int} (hn:n ≤ 60) (hrow:row.length = n) (d:Nat):∀ (t:Nat) (out:List Int),t + d = n → out.length = n →
  Ev (fun k=>impl_spread.l0 k (spA row x d t out) now n (wrap64 ((s:Int) + 1)) m ws) r → Ev (fun k=>impl_spread.l1 k out x now n s row n t m ws) r:=by
 induction d with
 | zero =>
  intro t out ht ho h
  refine Ev.step (fun k=>?_) h
  simp only [impl_spread.l1]
  rw [if_neg (by omega)]
  rfl
 | succ d ih =>
  intro t out ht ho h
  refine Ev.step (fun k=>?_) (ih (t + 1) (out.set t (wrap64 (rd out t + wrap64 (x * rd row t)))) (by omega) (by rw [List.length_set];exact ho) h)
  simp only [impl_spread.l1]
  rw [if_pos (by omega),if_pos (by omega),if_pos (by omega),if_pos (by omega),wrap_succ (show t < n by omega) (by omega),Int.toNat_natCast]
theorem implSp_l0 {m now:List Int} {ws:List (List Int)} {n:Nat} (hr:Rows ws n) (hl:now.length = n) (d:Nat):∀ (s:Nat) (out:List Int),s + d = n → out.length = n →
  Ev (fun k=>impl_spread.l0 k out now n s m ws) (spB ws now d s out):=by
 have h1:=hr.le
 have h2:=hr.len
 induction d with
 | zero =>
  intro s out hs ho
  refine Ev.step (fun k=>?_) (Ev.now out)
  simp only [impl_spread.l0]
  rw [if_neg (by omega)]
 | succ d ih =>
  intro s out hs ho
  have hrow:=hr.row s (by omega)
  refine Ev.step (fun k=>?_) (implSp_l1 (m:=m) (now:=now) (ws:=ws) (row:=rd_L1 ws s) (n:=n) (s:=s) (x:=rd now s) h1 hrow n 0 out (by omega) ho ?_)
  ·simp only [impl_spread.l0]
   rw [if_pos (by omega),if_pos (by omega),if_pos (by omega),if_pos (by omega),hrow]
   rfl
  ·rw [wrap_succ (show s < n by omega) (by omega)]
   have:=ih (s + 1) (spA (rd_L1 ws s) (rd now s) n 0 out) (by omega) (by rw [spA_length];exact ho)
   rw [spB,hl]
   exact this
theorem implSpread_ev {m now:List Int} {ws:List (List Int)} {n:Nat} (hr:Rows ws n) (hl:now.length = n):Ev (fun k=>impl_spread.f k m ws now) (spreadP ws now):=by
 have h1:=hr.le
 refine Ev.congr (fun k=>?_) (Ev.to (implSp_l0 (m:=m) hr hl n 0 (List.replicate n 0) (by omega) (by simp)) (by rw [spreadP,hl]))
 simp only [impl_spread.f]
 rw [if_pos (by omega),if_pos (by omega),hl]
 rfl
theorem specAf_l2 {m out:List Int} {ws:List (List Int)} {n N kk a:Nat} {r:List Int} (hr:Rows ws n) (hl:out.length = n) (ha:a < n) (d:Nat):∀ (t:Nat) (next:List Int),t + d = n → next.length = n →
  Ev (fun k=>spec_l18After.l1 k N out kk (spA (rd_L1 ws a) (rd out a) d t next) (wrap64 ((a:Int) + 1)) m ws) r → Ev (fun k=>spec_l18After.l2 k N out kk next a t m ws) r:=by
 have h1:=hr.le
 have h2:=hr.len
 have h3:=hr.row a ha
 induction d with
 | zero =>
  intro t next ht ho h
  refine Ev.step (fun k=>?_) h
  simp only [spec_l18After.l2]
  rw [if_neg (by omega)]
  rfl
 | succ d ih =>
  intro t next ht ho h
  refine Ev.step (fun k=>?_) (ih (t + 1) (next.set t (wrap64 (rd next t + wrap64 (rd out a * rd (rd_L1 ws a) t)))) (by omega) (by rw [List.length_set];exact ho) h)
  simp only [spec_l18After.l2]
  rw [if_pos (by omega),if_pos (by omega),if_pos (by omega),if_pos (by omega),if_pos (by omega),if_pos (by omega),if_pos (by omega),wrap_succ (show t < n by omega) (by omega),Int.toNat_natCast]
theorem specAf_l1 {m out:List Int} {ws:List (List Int)} {n N kk:Nat} {r:List Int} (hr:Rows ws n) (hl:out.length = n) (d:Nat):∀ (a:Nat) (next:List Int),a + d = n → next.length = n →
  Ev (fun k=>spec_l18After.l0 k N (spB ws out d a next) (wrap64 ((kk:Int) + 1)) m ws) r → Ev (fun k=>spec_l18After.l1 k N out kk next a m ws) r:=by
 have h1:=hr.le
 induction d with
 | zero =>
  intro a next ha ho h
  refine Ev.step (fun k=>?_) h
  simp only [spec_l18After.l1]
  rw [if_neg (by omega)]
  rfl
 | succ d ih =>
  intro a next ha ho h
  refine Ev.step (fun k=>?_) (specAf_l2 (m:=m) (N:=N) (kk:=kk) hr hl (show a < n by omega) n 0 next (by omega) ho ?_)
  ·simp only [spec_l18After.l1]
   rw [if_pos (by omega)]
   rfl
  ·rw [wrap_succ (show a < n by omega) (by omega)]
   refine ih (a + 1) (spA (rd_L1 ws a) (rd out a) n 0 next) (by omega) (by rw [spA_length];exact ho) ?_
   rw [spB,hl] at h
   exact h
theorem specAf_l0 {m:List Int} {ws:List (List Int)} {n N:Nat} (hr:Rows ws n) (hN:N ≤ 12) (d:Nat):∀ (kk:Nat) (out:List Int),kk + d = N → out.length = n →
  Ev (fun k=>spec_l18After.l0 k N out kk m ws) (stepsP ws d out):=by
 have h1:=hr.le
 induction d with
 | zero =>
  intro kk out hk ho
  refine Ev.step (fun k=>?_) (Ev.now out)
  simp only [spec_l18After.l0]
  rw [if_neg (by omega)]
 | succ d ih =>
  intro kk out hk ho
  refine Ev.step (fun k=>?_) (specAf_l1 (m:=m) (N:=N) (kk:=kk) hr ho n 0 (List.replicate n 0) (by omega) (by simp) ?_)
  ·simp only [spec_l18After.l0]
   rw [if_pos (by omega),if_pos (by omega),if_pos (by omega),ho]
   rfl
  ·rw [wrap_succ (show kk < N by omega) (by omega)]
   have:=ih (kk + 1) (spreadP ws out) (by omega) (by rw [spreadP_length];exact ho)
   rw [spreadP,ho] at this
   rw [stepsP,spreadP,ho]
   exact this
theorem specAfter_ev {m:List Int} {ws:List (List Int)} {s N:Nat} (hr:Rows ws m.length) (hs:s < m.length) (hN:N ≤ 12):Ev (fun k=>spec_l18After.f k m ws s N) (stepsP ws N (beginP m.length s)):=by
 have h1:=hr.le
 refine Ev.congr (fun k=>?_) (specAf_l0 (m:=m) hr hN N 0 (beginP m.length s) (by omega) (beginP_length _ _))
 simp only [spec_l18After.f]
 rw [if_pos (by omega),if_pos (by omega)]
 simp only [Option.bind_some,Int.toNat_natCast]
 rw [if_pos (by omega),if_pos (by simp;omega)]
 rfl
theorem implBegin_f {m:List Int} {ws:List (List Int)} {s:Nat} (hm:m.length ≤ 60) (hs:s < m.length):impl_begin.f m ws s = some (beginP m.length s):=by
 simp only [impl_begin.f]
 rw [if_pos (by omega),if_pos (by omega)]
 simp only [Option.bind_some,Int.toNat_natCast]
 rw [if_pos (by omega),if_pos (by simp;omega)]
 rfl
def askP (m:List Int) (ws:List (List Int)) (s n:Int):Bool:=chOk m ws && ((decide (0 ≤ s) && decide (s < (m.length:Int))) && (decide (0 ≤ n) && decide (n ≤ 12)))
theorem implAsk_ev (m:List Int) (ws:List (List Int)) (s n:Int):Ev (fun k=>impl_stepsOk.f k m ws s n) (askP m ws s n):=by
 refine Ev.cb (f:=fun _=>some (askP m ws s n)) (impl_ok m ws) (fun k h=>?_) (Ev.now _)
 simp only [impl_stepsOk.f]
 rw [h]
 simp only [Option.bind_some,askP]
 cases chOk m ws with
 | false=>simp
 | true =>
  rw [if_pos rfl]
  by_cases h1:s ≥ 0
  ·rw [if_pos h1]
   by_cases h2:s < (m.length:Int)
   ·rw [if_pos h2]
    by_cases h3:n ≥ 0
    ·rw [if_pos h3]
     simp [show 0 ≤ s from h1,h2,show 0 ≤ n from h3]
    ·rw [if_neg h3]
     simp [show ¬ 0 ≤ n from h3]
   ·rw [if_neg h2]
    simp [h2]
  ·rw [if_neg h1]
   simp [show ¬ 0 ≤ s from h1]
theorem specAsk_ev (m:List Int) (ws:List (List Int)) (s n:Int):Ev (fun k=>spec_l18Asked.f k m ws s n) (askP m ws s n):=by
 refine Ev.cb (f:=fun _=>some (askP m ws s n)) (spec_ok m ws) (fun k h=>?_) (Ev.now _)
 simp only [spec_l18Asked.f]
 rw [h]
 simp only [Option.bind_some,askP]
 cases hc:chOk m ws with
 | false=>simp
 | true =>
  obtain ⟨hr,h1⟩:=chOk_rows hc
  have h2:=hr.le
  rw [if_pos rfl,wrap_id (by omega) (by omega),l6In_f,l6In_f]
  simp only [Option.bind_some]
  rw [show decide (s ≤ (m.length:Int) - 1) = decide (s < (m.length:Int)) by rw [decide_eq_decide];omega]
  cases decide (0 ≤ s) && decide (s < (m.length:Int)) <;> simp
theorem ask_of {m:List Int} {ws:List (List Int)} {s n:Int} (h:askP m ws s n = true):Rows ws m.length∧∃ a b:Nat,s = a∧n = b∧a < m.length∧b ≤ 12:=by
 simp only [askP,Bool.and_eq_true,decide_eq_true_eq] at h
 obtain ⟨h1,⟨h2,h3⟩,h4,h5⟩:=h
 exact ⟨(chOk_rows h1).1,s.toNat,n.toNat,by omega,by omega,by omega,by omega⟩
end Go.Proofs.Ytablnoddkllhmaa.P
