/- The same but for order is as far everywhere, and may go on in the same way: plain. No condition. -/
import Derived.Test.YthljlnkanllpnaaP0
import Derived.Test.YthljlnkanllpnaaP1
import Derived.Test.YthljlnkanllpnaaP2
import Derived.Test.YthljlnkanllpnaaP3
import Derived.Test.YthljlnkanllpnaaP4
import Derived.Test.YthljlnkanllpnaaHistM
import Derived.Test.YthljlnkanllpnaaHSame
import Derived.Test.YthljlnkanllpnaaHistD
import Derived.Test.YthljlnkanllpnaaHistE
import Derived.Test.YthljlnkanllpnaaHistS
namespace Go.Proofs.Ythljlnkanllpnaa.P
open Go.RowKit Go.Proofs.YthljlnkanllpnaaW.PrintWords Go.Proofs.YthljlnkanllpnaaW.PrintLast
set_option linter.unusedVariables false
set_option linter.unusedSimpArgs false
theorem sameB_comm (n : Nat) (g h : List S32) : sameB n g h = sameB n h g := by
  rw [Bool.eq_iff_iff, sameB_iff, sameB_iff]
  exact ⟨fun x j hj => (x j hj).symm, fun x j hj => (x j hj).symm⟩
theorem sameP_comm (th : List (List Int)) (g h : List S32) : sameP th g h = sameP th h g := by
  unfold sameP
  rw [sameB_comm]
  cases okH th g <;> cases okH th h <;> rfl
theorem sameP_at {th : List (List Int)} {g h : List S32} (hs : sameP th g h = true) : histAt th g = histAt th h := by
  unfold sameP at hs
  simp only [Bool.and_eq_true] at hs
  exact histAt_same hs.1 hs.2.1 ((sameB_iff _ _ _).1 hs.2.2)
theorem turned_ev {s : List Int} (hs : Src s) (h : List S32) (hl : h.length ≤ 1000) {p : Int} (hp : 0 ≤ p) (hp2 : p ≤ 1000000) : ∃ h' p', h'.length = h.length ∧ p ≤ p' ∧ p' ≤ p + 6 ∧ Ev (fun k => spec_l92Turned.f k s p h) (h', p') := by
  have stop : ∀ (xs : List S32) (i p : Int), Ev (fun k => spec_l92Turned.j1 k xs i false s p) (xs, p) := fun xs i p => Ev.step (f := fun _ => some (xs, p)) (fun k => by
    simp only [spec_l92Turned.j1]
    rw [if_neg (by simp)]) (Ev.now _)
  have loop : ∀ (d i : Nat) (xs : List S32) (p : Int), i + d = 6 → xs.length = h.length → 0 ≤ p → p + d ≤ 2000000 → ∃ h' p', h'.length = h.length ∧ p ≤ p' ∧ p' ≤ p + d ∧ Ev (fun k => spec_l92Turned.l0 k xs i s p) (h', p') := by
    intro d
    induction d with
    | zero =>
      intro i xs p hi hx hp hp2
      refine ⟨xs, p, hx, by omega, by omega, Ev.step (fun k => ?_) (stop xs i p)⟩
      simp only [spec_l92Turned.l0]
      rw [if_neg (by omega)]
    | succ d ih =>
      intro i xs p hi hx hp hp2
      by_cases h1 : (xs.length : Int) > 1
      · have e1 : wrap64 ((xs.length : Int) - 1) = (xs.length : Int) - 1 := wrap_id (by omega) (by omega)
        obtain ⟨v, v0, v1, hv⟩ := pick_ev hs hp (by omega) (show (1 : Int) ≤ (xs.length : Int) - 1 by omega)
        have e2 : wrap64 (v + 1) = v + 1 := wrap_id (by omega) (by omega)
        have e3 : wrap64 ((i : Int) + 1) = ((i + 1 : Nat) : Int) := wrap_succ (show i < 6 by omega) (by omega)
        have head : ∀ (h' : List S32) (p' : Int), Ev (fun k => (if linkB (rd_T32 xs v) (rd_T32 xs (v + 1)) = true then spec_l92Turned.l0 k xs ((i + 1 : Nat) : Int) s (p + 1) else spec_l92Turned.l0 k ((xs.set v.toNat ⟨(rd_T32 xs (v + 1)).f0, (rd_T32 xs (v + 1)).f1⟩).set (v + 1).toNat ⟨(rd_T32 xs v).f0, (rd_T32 xs v).f1⟩) ((i + 1 : Nat) : Int) s (p + 1))) (h', p') → Ev (fun k => spec_l92Turned.l0 k xs i s p) (h', p') := by
          intro h' p' hE
          refine Ev.step (f := fun k => spec_l92Turned.j1 k xs i true s p) (fun k => ?_) (Ev.sb hv (fun k hk => ?_) hE)
          · simp only [spec_l92Turned.l0]
            rw [if_pos (by omega), decide_eq_true h1]
          · simp only [spec_l92Turned.j1]
            rw [if_pos trivial, e1, hk]
            simp only [Option.bind_some]
            rw [e2, if_pos v0, if_pos (by omega), if_pos (by omega), if_pos (by omega), shares_f, e3]
            rfl
        by_cases hb : linkB (rd_T32 xs v) (rd_T32 xs (v + 1)) = true
        · obtain ⟨h', p', a, b, c, hE⟩ := ih (i + 1) xs (p + 1) (by omega) hx (by omega) (by omega)
          refine ⟨h', p', a, by omega, by omega, head h' p' (Ev.congr (fun k => ?_) hE)⟩
          rw [if_pos hb]
        · obtain ⟨h', p', a, b, c, hE⟩ := ih (i + 1) ((xs.set v.toNat ⟨(rd_T32 xs (v + 1)).f0, (rd_T32 xs (v + 1)).f1⟩).set (v + 1).toNat ⟨(rd_T32 xs v).f0, (rd_T32 xs v).f1⟩) (p + 1) (by omega) (by rw [List.length_set, List.length_set]; exact hx) (by omega) (by omega)
          refine ⟨h', p', a, by omega, by omega, head h' p' (Ev.congr (fun k => ?_) hE)⟩
          rw [if_neg hb]
      · refine ⟨xs, p, hx, by omega, by omega, Ev.step (fun k => ?_) (stop xs i p)⟩
        simp only [spec_l92Turned.l0]
        rw [if_pos (by omega), decide_eq_false h1]
  obtain ⟨h', p', a, b, c, hE⟩ := loop 6 0 ([] ++ h) p (by omega) (by simp) hp (by omega)
  refine ⟨h', p', a, b, by omega, Ev.congr (fun k => ?_) hE⟩
  simp only [spec_l92Turned.f, Option.bind_some]
  rw [if_pos (by rw [List.length_nil]; omega)]
  rfl
theorem drawSame_ev {s : List Int} (hs : Src s) {l0 : List Int} (ho : spec_l6Open.f l0 = some (s, 0)) : ∃ th g h, SmallTh th ∧ g.length ≤ 20 ∧ h.length ≤ 20 ∧ Ev (fun k => spec_DrawHistorySame.f k l0) (th, g, h) := by
  obtain ⟨th, p, hth, p0, p1, K0, h0⟩ := drawThreads_ev hs (show (0 : Int) ≤ 0 by omega) (by omega)
  obtain ⟨g, q, hg, q0, q1, K1, h1⟩ := drawHistory_ev hs hth (show 0 ≤ p by omega) (by omega)
  obtain ⟨t, r, ht, r0, r1, K2, h2⟩ := turned_ev hs g (by omega) (show 0 ≤ q by omega) (by omega)
  obtain ⟨v, v0, v1, K3, h3⟩ := pick_ev hs (show 0 ≤ r by omega) (by omega) (show (1 : Int) ≤ 3 by omega)
  have h0 : ∀ k, K0 ≤ k → spec_l92Threads.f k s 0 = some (th, p) := h0
  have h1 : ∀ k, K1 ≤ k → spec_l92History.f k s p th = some (g, q) := h1
  have h2 : ∀ k, K2 ≤ k → spec_l92Turned.f k s q g = some (t, r) := h2
  have h3 : ∀ k, K3 ≤ k → spec_l6Rd_pick.f k s r 3 = some (v, r + 1) := h3
  by_cases hv : v = 0
  · obtain ⟨h, u, hh, u0, u1, K4, h4⟩ := drawHistory_ev hs hth (show 0 ≤ r + 1 by omega) (by omega)
    have h4 : ∀ k, K4 ≤ k → spec_l92History.f k s (r + 1) th = some (h, u) := h4
    refine ⟨th, g, h, hth, hg, hh, K0 + K1 + K2 + K3 + K4, fun k hk => ?_⟩
    show spec_DrawHistorySame.f k l0 = _
    unfold spec_DrawHistorySame.f
    rw [ho, Option.bind_some, h0 k (by omega), Option.bind_some, h1 k (by omega), Option.bind_some, h2 k (by omega), Option.bind_some, h3 k (by omega), Option.bind_some, if_pos hv, h4 k (by omega), Option.bind_some]
  · refine ⟨th, g, t, hth, hg, by omega, K0 + K1 + K2 + K3, fun k hk => ?_⟩
    show spec_DrawHistorySame.f k l0 = _
    unfold spec_DrawHistorySame.f
    rw [ho, Option.bind_some, h0 k (by omega), Option.bind_some, h1 k (by omega), Option.bind_some, h2 k (by omega), Option.bind_some, h3 k (by omega), Option.bind_some, if_neg hv]
theorem mnInts_same (l : List Int) (hl : l.length ≤ 1048576) : Ev (fun k => laws_mnInts.f k l l) true := by
  have loop : ∀ (d i : Nat), i + d = l.length → Ev (fun k => laws_mnInts.l0 k l l i) true := by
    intro d
    induction d with
    | zero =>
      intro i hi
      refine Ev.step (f := fun _ => some true) (fun k => ?_) (Ev.now true)
      simp only [laws_mnInts.l0]
      rw [if_neg (by omega)]
    | succ d ih =>
      intro i hi
      refine Ev.step (fun k => ?_) (ih (i + 1) (by omega))
      simp only [laws_mnInts.l0]
      rw [if_pos (by omega), if_pos (by omega), if_pos (by omega), if_pos trivial, wrap_succ (show i < l.length by omega) (by omega)]
  refine Ev.congr (fun k => ?_) (loop l.length 0 (by omega))
  simp only [laws_mnInts.f]
  rw [if_pos trivial]
  rfl
end Go.Proofs.Ythljlnkanllpnaa.P
namespace Go.Proofs.Ythljlnkanllpnaa.Pure
open Go.RowKit Go.Proofs.Ythljlnkanllpnaa.P Go.Proofs.YthljlnkanllpnaaW.PrintWords Go.Proofs.YthljlnkanllpnaaW.PrintLast
theorem FnHistorySame : laws_FnHistorySame.Pure := by
  intro l0 hlen hlen2 hwf
  by_cases hl : (l0.length : Int) > 1048576
  · exact ⟨0, by simp only [laws_FnHistorySame.f]; rw [if_pos hl]⟩
  · obtain ⟨s, hs, ho⟩ := open_ev hwf
    obtain ⟨th, g, h, hth, hg, hh, K0, h0⟩ := drawSame_ev hs ho
    obtain ⟨K1, h1⟩ := implSame_ev (g := g) (h := h) hth (by omega) (by omega)
    obtain ⟨K2, h2⟩ := specSame_ev (g := g) (h := h) hth (by omega) (by omega)
    obtain ⟨K3, h3⟩ := implSame_ev (g := h) (h := g) hth (by omega) (by omega)
    have h0 : ∀ k, K0 ≤ k → spec_DrawHistorySame.f k l0 = some (th, g, h) := h0
    have h1 : ∀ k, K1 ≤ k → impl_HistorySame.f k th g h = some (sameP th g h) := h1
    have h2 : ∀ k, K2 ≤ k → spec_HistorySame.f k th g h = some (sameP th g h) := h2
    have h3 : ∀ k, K3 ≤ k → impl_HistorySame.f k th h g = some (sameP th h g) := h3
    rw [sameP_comm th h g] at h3
    cases hb : sameP th g h with
    | false =>
      rw [hb] at h1 h2 h3
      refine ⟨K0 + K1 + K2 + K3, ?_⟩
      unfold laws_FnHistorySame.f
      rw [if_neg hl, h0 _ (by omega), Option.bind_some, h1 _ (by omega), Option.bind_some, h2 _ (by omega), Option.bind_some, if_neg (by simp), if_neg (by simp), h3 _ (by omega), Option.bind_some]
      rfl
    | true =>
      rw [hb] at h1 h2 h3
      have hat := sameP_at hb
      have hmay : mayOf th g = mayOf th h := by
        unfold mayOf
        rw [hat]
      obtain ⟨K4, h4⟩ := implAt_ev (h := g) hth (by omega)
      obtain ⟨K5, h5⟩ := implAt_ev (h := h) hth (by omega)
      have hal : (histAt th h).1.length ≤ 1048576 := by
        have hokh : (histAt th h).2 = true := by
          unfold sameP at hb
          simp only [Bool.and_eq_true] at hb
          exact hb.2.1
        obtain ⟨ok, rh⟩ := histAt_ok hokh
        have := (run_far h (far0 th) rh).len
        have := hth.len
        omega
      obtain ⟨K6, h6⟩ := mnInts_same (histAt th h).1 hal
      obtain ⟨K7, h7⟩ := implMayL_ev (h := g) hth (by omega)
      obtain ⟨K8, h8⟩ := implMayL_ev (h := h) hth (by omega)
      have := mayOf_len th h
      obtain ⟨K9, h9⟩ := mnEvents_ev (mayOf th h) (by omega)
      have h4 : ∀ k, K4 ≤ k → impl_HistoryAt.f k th g = some (histAt th g) := h4
      have h5 : ∀ k, K5 ≤ k → impl_HistoryAt.f k th h = some (histAt th h) := h5
      have h6 : ∀ k, K6 ≤ k → laws_mnInts.f k (histAt th h).1 (histAt th h).1 = some true := h6
      have h7 : ∀ k, K7 ≤ k → impl_HistoryMay.f k th g = some (mayOf th g) := h7
      have h8 : ∀ k, K8 ≤ k → impl_HistoryMay.f k th h = some (mayOf th h) := h8
      have h9 : ∀ k, K9 ≤ k → laws_mnEvents.f k (mayOf th h) (mayOf th h) = some true := h9
      rw [hat] at h4
      rw [hmay] at h7
      refine ⟨K0 + K1 + K2 + K3 + K4 + K5 + K6 + K7 + K8 + K9, ?_⟩
      unfold laws_FnHistorySame.f
      rw [if_neg hl, h0 _ (by omega), Option.bind_some, h1 _ (by omega), Option.bind_some, h2 _ (by omega), Option.bind_some, if_neg (by simp), if_pos rfl, h4 _ (by omega), Option.bind_some, h5 _ (by omega), Option.bind_some, h3 _ (by omega), Option.bind_some, if_pos rfl, h6 _ (by omega), Option.bind_some, if_pos rfl, h7 _ (by omega), Option.bind_some, h8 _ (by omega), Option.bind_some, h9 _ (by omega), Option.bind_some]
end Go.Proofs.Ythljlnkanllpnaa.Pure
