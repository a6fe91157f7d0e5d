/- What may be undone stays so, whatever else is: plain. No condition. -/
import Derived.Test.YthljlnkanllpnaaP0
import Derived.Test.YthljlnkanllpnaaP1
import Derived.Test.YthljlnkanllpnaaP2
import Derived.Test.YthljlnkanllpnaaP4
import Derived.Test.YthljlnkanllpnaaHUndo
import Derived.Test.YthljlnkanllpnaaHistD
import Derived.Test.YthljlnkanllpnaaHistV
namespace Go.Proofs.Ythljlnkanllpnaa.P
open Go.RowKit Go.Proofs.YthljlnkanllpnaaW.PrintWords Go.Proofs.YthljlnkanllpnaaW.PrintLast
set_option linter.unusedVariables false
set_option linter.unusedSimpArgs false
theorem undoAny_ev {th : List (List Int)} {h : List S32} {n : Nat} (hs : SmallTh th) (hh : h.length ≤ 1048576) (ho : okH th h = true) (hn : n < h.length) (hf : freeB h n = true) : ∀ (d k0 : Nat), k0 + d = h.length → Ev (fun k => laws_FnUndoAny.l0 k th h n (h.eraseIdx n) true k0) true := by
  intro d
  induction d with
  | zero =>
    intro k0 hk
    refine Ev.step (f := fun k => laws_FnUndoAny.j2 k th h n (h.eraseIdx n) true k0 false) (fun k => ?_) (Ev.step (f := fun _ => some true) (fun k => ?_) (Ev.now true))
    · simp only [laws_FnUndoAny.l0]
      rw [if_neg (by omega)]
    · simp only [laws_FnUndoAny.j2]
      rw [if_neg (by simp)]
  | succ d ih =>
    intro k0 hk
    have hkl : k0 < h.length := by omega
    have next := ih (k0 + 1) (by omega)
    have hu := implUndo_ev (h := h) hs hh (k0 : Int)
    have skip : ∀ x, Ev (fun k => laws_FnUndoAny.j3 k th h n (h.eraseIdx n) true k0 x true) true := fun x => Ev.step (fun k => by
      simp only [laws_FnUndoAny.j3]
      rw [if_pos trivial, wrap_succ hkl (by omega)]) next
    refine Ev.step (f := fun k => laws_FnUndoAny.j2 k th h n (h.eraseIdx n) true k0 true) (fun k => ?_) ?_
    · simp only [laws_FnUndoAny.l0]
      rw [if_pos (by omega)]
    · by_cases hkn : k0 = n
      · refine Ev.sb hu (fun k hk1 => ?_) (skip (undoP th h (k0 : Int)).1)
        simp only [laws_FnUndoAny.j2]
        rw [if_pos trivial, hk1]
        simp only [Option.bind_some]
        rw [if_pos (by omega)]
      · cases hb : (undoP th h (k0 : Int)).2 with
        | false =>
          refine Ev.sb hu (fun k hk1 => ?_) (skip (undoP th h (k0 : Int)).1)
          simp only [laws_FnUndoAny.j2]
          rw [if_pos trivial, hk1]
          simp only [Option.bind_some]
          rw [if_neg (by omega), hb]
          rfl
        | true =>
          obtain ⟨m, hm, hml, _, hmf, hme⟩ := undo_true hb
          obtain rfl : k0 = m := by omega
          have ln : (h.eraseIdx n).length = h.length - 1 := List.length_eraseIdx_of_lt hn
          have lm : (h.eraseIdx k0).length = h.length - 1 := List.length_eraseIdx_of_lt hml
          have on := okH_erase ho hn hf
          have om := okH_erase ho hml hmf
          refine Ev.sb hu (fun k hk1 => ?_) (f := fun k => laws_FnUndoAny.j3 k th h n (h.eraseIdx n) true k0 (h.eraseIdx k0) false) ?_
          · simp only [laws_FnUndoAny.j2]
            rw [if_pos trivial, hk1]
            simp only [Option.bind_some]
            rw [if_neg (by omega), hb, hme]
            rfl
          have fin : ∀ (a b : Nat) (y : List S32), y.length ≤ 1048576 → undoP th (h.eraseIdx n) (a : Int) = (y, true) → undoP th (h.eraseIdx k0) (b : Int) = (y, true) → Ev (fun k => laws_FnUndoAny.j4 k th h n (h.eraseIdx n) true k0 (h.eraseIdx k0) a b) true := by
            intro a b y hy ha hb2
            have h1 := implUndo_ev (h := h.eraseIdx n) hs (by omega) (a : Int)
            have h2 := implUndo_ev (h := h.eraseIdx k0) hs (by omega) (b : Int)
            rw [ha] at h1
            rw [hb2] at h2
            refine Ev.sb h1 (fun k hk1 => ?_) (f := fun k => (impl_HistoryUndo.f k th (h.eraseIdx k0) b).bind fun bt516 => if bt516.2 = true then ((laws_mnEvents.f k y bt516.1).bind fun t520 => if t520 = true then laws_FnUndoAny.l0 k th h n (h.eraseIdx n) true ((k0 + 1 : Nat) : Int) else some false) else some false) (Ev.cb h2 (fun k hk2 => ?_) (f := fun k => (laws_mnEvents.f k y y).bind fun t520 => if t520 = true then laws_FnUndoAny.l0 k th h n (h.eraseIdx n) true ((k0 + 1 : Nat) : Int) else some false) (Ev.cb (mnEvents_ev y hy) (fun k hk3 => ?_) next))
            · simp only [laws_FnUndoAny.j4]
              rw [hk1]
              simp only [Option.bind_some, if_true, wrap_succ hkl (show h.length ≤ 9223372036854775807 by omega)]
            · rw [hk2]
              simp only [Option.bind_some, if_true]
            · rw [hk3]
              simp only [Option.bind_some, if_true]
          by_cases hlt : n < k0
          · have e1 : wrap64 ((k0 : Int) - 1) = ((k0 - 1 : Nat) : Int) := by rw [wrap_pred (by omega) (by omega)]; omega
            refine Ev.step (fun k => ?_) (fin (k0 - 1) n ((h.eraseIdx n).eraseIdx (k0 - 1)) (by rw [List.length_eraseIdx_of_lt (by omega)]; omega) (undo_of on (by omega) (free_behind hlt hml hmf)) (by rw [erase_erase h hlt]; exact undo_of om (by omega) (free_before hlt hml hf)))
            simp only [laws_FnUndoAny.j3]
            rw [if_neg (by simp), if_pos (by omega), e1]
          · have e1 : wrap64 ((n : Int) - 1) = ((n - 1 : Nat) : Int) := by rw [wrap_pred (by omega) (by omega)]; omega
            have hlt2 : k0 < n := by omega
            refine Ev.step (fun k => ?_) (fin k0 (n - 1) ((h.eraseIdx k0).eraseIdx (n - 1)) (by rw [List.length_eraseIdx_of_lt (by omega)]; omega) (by rw [erase_erase h hlt2]; exact undo_of on (by omega) (free_before hlt2 hn hmf)) (undo_of om (by omega) (free_behind hlt2 hn hf)))
            simp only [laws_FnUndoAny.j3]
            rw [if_neg (by simp), if_neg (by omega), e1]
theorem drawUndo_ev {s : List Int} (hs : Src s) {l0 : List Int} (ho : spec_l6Open.f l0 = some (s, 0)) : ∃ th h i, SmallTh th ∧ h.length ≤ 20 ∧ Ev (fun k => spec_DrawHistoryUndo.f k l0) (th, h, i) := by
  obtain ⟨th, p, hth, p0, p1, ht⟩ := drawThreads_ev hs (show (0 : Int) ≤ 0 by omega) (by omega)
  obtain ⟨h, q, hh, q0, q1, hd⟩ := drawHistory_ev hs hth (show 0 ≤ p by omega) (by omega)
  have w2 : wrap64 ((h.length : Int) + 2) = (h.length : Int) + 2 := wrap_id (by omega) (by omega)
  obtain ⟨v, v0, v1, hv⟩ := pick_ev hs (show 0 ≤ q by omega) (by omega) (show (1 : Int) ≤ (h.length : Int) + 2 by omega)
  by_cases hz : (h.length : Int) > 0
  · obtain ⟨u, u0, u1, hu⟩ := pick_ev hs (show 0 ≤ q + 1 by omega) (by omega) (show (1 : Int) ≤ 2 by omega)
    by_cases hu0 : u = 0
    · obtain ⟨t, t0, t1, ht2⟩ := pick_ev hs (show 0 ≤ q + 1 + 1 by omega) (by omega) (show (1 : Int) ≤ mn (h.length : Int) 3 by unfold mn; split <;> omega)
      obtain ⟨K0, h0⟩ := ht
      have h0 : ∀ k, K0 ≤ k → spec_l92Threads.f k s 0 = some (th, p) := h0
      obtain ⟨K1, h1⟩ := hd
      have h1 : ∀ k, K1 ≤ k → spec_l92History.f k s p th = some (h, q) := h1
      obtain ⟨K2, h2⟩ := hv
      have h2 : ∀ k, K2 ≤ k → spec_l6Rd_pick.f k s q ((h.length : Int) + 2) = some (v, q + 1) := h2
      obtain ⟨K3, h3⟩ := hu
      have h3 : ∀ k, K3 ≤ k → spec_l6Rd_pick.f k s (q + 1) 2 = some (u, q + 1 + 1) := h3
      obtain ⟨K4, h4⟩ := ht2
      have h4 : ∀ k, K4 ≤ k → spec_l6Rd_pick.f k s (q + 1 + 1) (mn (h.length : Int) 3) = some (t, q + 1 + 1 + 1) := h4
      refine ⟨th, h, wrap64 ((wrap64 ((h.length : Int) - 1)) - t), hth, hh, K0 + K1 + K2 + K3 + K4, fun k hk => ?_⟩
      show spec_DrawHistoryUndo.f k l0 = _
      unfold spec_DrawHistoryUndo.f
      rw [ho, Option.bind_some, h0 k (by omega), Option.bind_some, h1 k (by omega), Option.bind_some, w2, h2 k (by omega), Option.bind_some, if_pos hz, h3 k (by omega), Option.bind_some, if_pos hu0, h4 k (by omega), Option.bind_some]
    · obtain ⟨K0, h0⟩ := ht
      have h0 : ∀ k, K0 ≤ k → spec_l92Threads.f k s 0 = some (th, p) := h0
      obtain ⟨K1, h1⟩ := hd
      have h1 : ∀ k, K1 ≤ k → spec_l92History.f k s p th = some (h, q) := h1
      obtain ⟨K2, h2⟩ := hv
      have h2 : ∀ k, K2 ≤ k → spec_l6Rd_pick.f k s q ((h.length : Int) + 2) = some (v, q + 1) := h2
      obtain ⟨K3, h3⟩ := hu
      have h3 : ∀ k, K3 ≤ k → spec_l6Rd_pick.f k s (q + 1) 2 = some (u, q + 1 + 1) := h3
      refine ⟨th, h, wrap64 (v - 1), hth, hh, K0 + K1 + K2 + K3, fun k hk => ?_⟩
      show spec_DrawHistoryUndo.f k l0 = _
      unfold spec_DrawHistoryUndo.f
      rw [ho, Option.bind_some, h0 k (by omega), Option.bind_some, h1 k (by omega), Option.bind_some, w2, h2 k (by omega), Option.bind_some, if_pos hz, h3 k (by omega), Option.bind_some, if_neg hu0]
  · obtain ⟨K0, h0⟩ := ht
    have h0 : ∀ k, K0 ≤ k → spec_l92Threads.f k s 0 = some (th, p) := h0
    obtain ⟨K1, h1⟩ := hd
    have h1 : ∀ k, K1 ≤ k → spec_l92History.f k s p th = some (h, q) := h1
    obtain ⟨K2, h2⟩ := hv
    have h2 : ∀ k, K2 ≤ k → spec_l6Rd_pick.f k s q ((h.length : Int) + 2) = some (v, q + 1) := h2
    refine ⟨th, h, wrap64 (v - 1), hth, hh, K0 + K1 + K2, fun k hk => ?_⟩
    show spec_DrawHistoryUndo.f k l0 = _
    unfold spec_DrawHistoryUndo.f
    rw [ho, Option.bind_some, h0 k (by omega), Option.bind_some, h1 k (by omega), Option.bind_some, w2, h2 k (by omega), Option.bind_some, if_neg hz]
end Go.Proofs.Ythljlnkanllpnaa.P
namespace Go.Proofs.Ythljlnkanllpnaa.Pure
open Go.RowKit Go.Proofs.Ythljlnkanllpnaa.P Go.Proofs.YthljlnkanllpnaaW.PrintWords Go.Proofs.YthljlnkanllpnaaW.PrintLast
theorem FnUndoAny : laws_FnUndoAny.Pure := by
  intro l0 hlen hlen2 hwf
  by_cases hl : (l0.length : Int) > 1048576
  · exact ⟨0, by simp only [laws_FnUndoAny.f]; rw [if_pos hl]⟩
  · obtain ⟨s, hs, ho⟩ := open_ev hwf
    obtain ⟨th, h, i, hth, hh, K0, h0⟩ := drawUndo_ev hs ho
    obtain ⟨K1, h1⟩ := implUndo_ev (h := h) hth (by omega) i
    obtain ⟨K2, h2⟩ := specUndo_ev (h := h) hth (by omega) i
    have hle : (undoP th h i).1.length ≤ 1048576 := by
      unfold undoP
      split
      · have := List.length_eraseIdx_le h i.toNat
        show (h.eraseIdx i.toNat).length ≤ _
        omega
      · simp
    obtain ⟨K3, h3⟩ := mnEvents_ev (undoP th h i).1 hle
    have fin : Ev (fun k => laws_FnUndoAny.j0 k th h i (undoP th h i).1 (undoP th h i).2 false) true := by
      cases hb : (undoP th h i).2 with
      | false =>
        refine Ev.step (f := fun k => laws_FnUndoAny.l0 k th h i (undoP th h i).1 false 0) (fun k => ?_) (Ev.step (f := fun k => laws_FnUndoAny.j2 k th h i (undoP th h i).1 false 0 false) (fun k => ?_) (Ev.step (f := fun _ => some true) (fun k => ?_) (Ev.now true)))
        · simp only [laws_FnUndoAny.j0]
          rw [if_neg (by simp)]
        · simp only [laws_FnUndoAny.l0]
          by_cases hz : (0 : Int) < (h.length : Int)
          · rw [if_pos hz]
          · rw [if_neg hz]
        · simp only [laws_FnUndoAny.j2]
          rw [if_neg (by simp)]
      | true =>
        obtain ⟨n, rfl, hn, hok, hf, he⟩ := undo_true hb
        rw [he]
        refine Ev.step (fun k => ?_) (undoAny_ev hth (by omega) hok hn hf h.length 0 (by omega))
        simp only [laws_FnUndoAny.j0]
        rw [if_neg (by simp)]
        rfl
    obtain ⟨K4, h4⟩ := fin
    refine ⟨K0 + K1 + K2 + K3 + K4, ?_⟩
    have g0 := h0 (K0 + K1 + K2 + K3 + K4) (by omega)
    have g1 := h1 (K0 + K1 + K2 + K3 + K4) (by omega)
    have g2 := h2 (K0 + K1 + K2 + K3 + K4) (by omega)
    have g3 := h3 (K0 + K1 + K2 + K3 + K4) (by omega)
    have g4 := h4 (K0 + K1 + K2 + K3 + K4) (by omega)
    simp only [laws_FnUndoAny.f, g0, g1, g2, g3, Option.bind_some]
    rw [if_neg hl, if_pos trivial]
    simpa using g4
end Go.Proofs.Ythljlnkanllpnaa.Pure
