/- Going back leaves a history, and takes no more than it must: plain. No condition. -/
import Derived.Test.YthljlnkanllpnaaP0
import Derived.Test.YthljlnkanllpnaaP2
import Derived.Test.YthljlnkanllpnaaP3
import Derived.Test.YthljlnkanllpnaaHistQ
import Derived.Test.YthljlnkanllpnaaHistD
import Derived.Test.YthljlnkanllpnaaHistBk
import Derived.Test.YthljlnkanllpnaaDrawBack
namespace Go.Proofs.Ythljlnkanllpnaa.P
open Go.RowKit Go.Proofs.YthljlnkanllpnaaW.PrintWords Go.Proofs.YthljlnkanllpnaaW.PrintLast
set_option linter.unusedVariables false
set_option linter.unusedSimpArgs false
theorem historyBack_ev {th : List (List Int)} {h r : List S32} {q : Nat} {n : Int} (hs : SmallTh th) (hh : h.length ≤ 1048576) (ho : okH th h = true) (hq : q < th.length) (b : BackTo (q : Int) n h r) : ∀ (d i : Nat), i + d = th.length → Ev (fun k => laws_FnHistoryBack.l0 k h q n r (histAt th h).1 (histAt th r).1 i) true := by
  obtain ⟨a1, a2⟩ := hist_count ho
  obtain ⟨or_, pr⟩ := b.ok ho
  obtain ⟨b1, b2⟩ := hist_count or_
  have hn := hs.len
  intro d
  induction d with
  | zero =>
    intro i hi
    by_cases hc : ((ofP h (q : Int)).length : Int) > n
    · refine Ev.step (f := fun _ => some true) (fun k => ?_) (Ev.now true)
      simp only [laws_FnHistoryBack.l0]
      rw [if_neg (by omega), if_pos (by omega), if_pos (by omega), a2 q, if_pos hc]
    · obtain rfl : r = h := by
        cases b with
        | stop _ => rfl
        | go hc2 _ _ _ => exact absurd hc2 hc
      refine Ev.sb (mnEvents_ev r hh) (fun k hk => ?_) (f := fun _ => some true) (Ev.now true)
      simp only [laws_FnHistoryBack.l0]
      rw [if_neg (by omega), if_pos (by omega), if_pos (by omega), a2 q, if_neg hc, hk, Option.bind_some]
  | succ d ih =>
    intro i hi
    have hle : (ofP r (i : Int)).length ≤ (ofP h (i : Int)).length := (pr i).length_le
    refine Ev.step (fun k => ?_) (ih (i + 1) (by omega))
    simp only [laws_FnHistoryBack.l0]
    rw [if_pos (by omega), if_pos (by omega), if_pos (by omega), a2 i, b2 i, if_neg (by omega), wrap_succ (show i < th.length by omega) (by omega)]
end Go.Proofs.Ythljlnkanllpnaa.P
namespace Go.Proofs.Ythljlnkanllpnaa.Pure
open Go.RowKit Go.Proofs.Ythljlnkanllpnaa.P Go.Proofs.YthljlnkanllpnaaW.PrintWords Go.Proofs.YthljlnkanllpnaaW.PrintLast
theorem FnHistoryBack : laws_FnHistoryBack.Pure := by
  intro l0 hlen hlen2 hwf
  by_cases hl : (l0.length : Int) > 1048576
  · exact ⟨0, by simp only [laws_FnHistoryBack.f]; rw [if_pos hl]⟩
  · obtain ⟨s, hs, ho⟩ := open_ev hwf
    obtain ⟨th, h, q, n, hth, hh, K0, h0⟩ := drawBack_ev hs ho
    obtain ⟨r, hr⟩ := backIs_ex th h q n
    obtain ⟨K1, h1⟩ := hr.impl hth (by omega)
    obtain ⟨K2, h2⟩ := hr.spec hth (by omega)
    have hle : r.1.length ≤ 1048576 := by
      rcases hr with ⟨_, _, _, _, _, b⟩ | ⟨_, rfl⟩
      · have := b.sub.length_le
        omega
      · simp
    obtain ⟨K3, h3⟩ := mnEvents_ev r.1 hle
    have fin : Ev (fun k => laws_FnHistoryBack.j0 k th h q n r.1 r.2 false) true := by
      rcases hr with ⟨ok, q0, q1, n0, r2, b⟩ | ⟨_, rfl⟩
      · obtain ⟨q, rfl⟩ : ∃ q' : Nat, q = q' := ⟨q.toNat, by omega⟩
        have or_ := (b.ok ok).1
        obtain ⟨b1, b2⟩ := hist_count or_
        have bl := b.le
        refine Ev.sb (implAt_ev (h := h) hth (by omega)) (fun k hk => ?_) (f := fun k => (impl_HistoryAt.f k th r.1).bind fun bt => if bt.2 = true then (if 0 ≤ (q : Int) then (if (q : Int) < (bt.1.length : Int) then laws_FnHistoryBack.j1 k h q n r.1 (histAt th h).1 bt.1 (decide (rd bt.1 (q : Int) > n)) else none) else none) else laws_FnHistoryBack.j1 k h q n r.1 (histAt th h).1 bt.1 true) (Ev.cb (implAt_ev (h := r.1) hth hle) (fun k hk => ?_) (f := fun k => laws_FnHistoryBack.j1 k h q n r.1 (histAt th h).1 (histAt th r.1).1 false) (Ev.step (fun k => ?_) (historyBack_ev hth (by omega) ok (by omega) b th.length 0 (by omega))))
        · rw [laws_FnHistoryBack.j0, if_neg (by simp), if_pos r2, hk, Option.bind_some]
          have e2 : (histAt th h).2 = true := ok
          cases impl_HistoryAt.f k th r.1 with
          | none => rfl
          | some v => simp only [Option.bind_some, e2, if_true]
        · rw [hk, Option.bind_some, if_pos (show (histAt th r.1).2 = true from or_), if_pos (by omega), if_pos (by omega), b2 q, decide_eq_false (by omega)]
        · rw [laws_FnHistoryBack.j1, if_neg (by simp)]
          rfl
      · refine Ev.step (f := fun _ => some true) (fun k => ?_) (Ev.now true)
        rw [laws_FnHistoryBack.j0, if_neg (by simp), if_neg (by simp)]
    obtain ⟨K4, h4⟩ := fin
    have h0 : ∀ k, K0 ≤ k → spec_DrawHistoryBack.f k l0 = some (th, h, q, n) := h0
    have h1 : ∀ k, K1 ≤ k → impl_HistoryBack.f k th h q n = some r := h1
    have h2 : ∀ k, K2 ≤ k → spec_HistoryBack.f k th h q n = some r := h2
    have h3 : ∀ k, K3 ≤ k → laws_mnEvents.f k r.1 r.1 = some true := h3
    have h4 : ∀ k, K4 ≤ k → laws_FnHistoryBack.j0 k th h q n r.1 r.2 false = some true := h4
    have e1 : (r.2 != r.2) = false := by simp
    refine ⟨K0 + K1 + K2 + K3 + K4, ?_⟩
    unfold laws_FnHistoryBack.f
    rw [if_neg hl, h0 _ (by omega), Option.bind_some, h1 _ (by omega), Option.bind_some, h2 _ (by omega), Option.bind_some, h3 _ (by omega), Option.bind_some, if_pos rfl, e1]
    exact h4 _ (by omega)
end Go.Proofs.Ythljlnkanllpnaa.Pure
