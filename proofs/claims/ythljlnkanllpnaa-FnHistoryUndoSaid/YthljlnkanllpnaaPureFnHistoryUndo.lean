/- What was undone can be done again, and is the same but for order: plain. No condition. -/
import Derived.Test.YthljlnkanllpnaaP0
import Derived.Test.YthljlnkanllpnaaP2
import Derived.Test.YthljlnkanllpnaaP4
import Derived.Test.YthljlnkanllpnaaHistQ
import Derived.Test.YthljlnkanllpnaaHSame
import Derived.Test.YthljlnkanllpnaaHUndo
import Derived.Test.YthljlnkanllpnaaHistD
import Derived.Test.YthljlnkanllpnaaHistV
import Derived.Test.YthljlnkanllpnaaHistI
import Derived.Test.YthljlnkanllpnaaDrawUndo
namespace Go.Proofs.Ythljlnkanllpnaa.P
open Go.RowKit Go.Proofs.YthljlnkanllpnaaW.PrintWords Go.Proofs.YthljlnkanllpnaaW.PrintLast
set_option linter.unusedVariables false
set_option linter.unusedSimpArgs false
theorem again_same {th : List (List Int)} {h : List S32} {n : Nat} (ho : okH th h = true) (hn : n < h.length) (hf : freeB h n = true) : sameP th (h.eraseIdx n ++ [h[n]]) h = true := by
  have he : h[n]? = some h[n] := List.getElem?_eq_getElem hn
  have hfr := (freeB_iff he).1 hf
  obtain ⟨ok, hr⟩ := histAt_ok ho
  obtain ⟨b, hb, hc⟩ := run_erase_can h n (far0 th) he hfr hr
  have h1 : okH th (h.eraseIdx n ++ [h[n]]) = true := by
    unfold okH
    rw [hist_of ok (a := stepAt b h[n]) (by rw [run_append1, hb]; simp only [Option.bind_some, if_pos hc])]
  have h2 : sameB th.length (h.eraseIdx n ++ [h[n]]) h = true := (sameB_iff _ _ _).2 (fun j _ => ofP_moved he hfr j)
  unfold sameP
  rw [h1, ho, h2]
  rfl
end Go.Proofs.Ythljlnkanllpnaa.P
namespace Go.Proofs.Ythljlnkanllpnaa.Pure
open Go.RowKit Go.Proofs.Ythljlnkanllpnaa.P Go.Proofs.YthljlnkanllpnaaW.PrintWords Go.Proofs.YthljlnkanllpnaaW.PrintLast
theorem FnHistoryUndo : laws_FnHistoryUndo.Pure := by
  intro l0 hlen hlen2 hwf
  by_cases hl : (l0.length : Int) > 1048576
  · exact ⟨0, by simp only [laws_FnHistoryUndo.f]; rw [if_pos hl]⟩
  · obtain ⟨s, hs, ho⟩ := open_ev hwf
    obtain ⟨th, h, i, hth, hh, K0, h0⟩ := drawUndo_ev hs ho
    obtain ⟨K1, h1⟩ := implUndo_ev (h := h) hth (by omega) i
    obtain ⟨K2, h2⟩ := specUndo_ev (h := h) hth (by omega) i
    have hle : (undoP th h i).1.length ≤ 1048576 := by
      unfold undoP
      split
      · have := List.length_eraseIdx_le h i.toNat
        show (h.eraseIdx i.toNat).length ≤ _
        omega
      · simp
    obtain ⟨K3, h3⟩ := mnEvents_ev (undoP th h i).1 hle
    have fin : Ev (fun k => laws_FnHistoryUndo.j0 k th h i (undoP th h i).1 (undoP th h i).2 false) true := by
      cases hb : (undoP th h i).2 with
      | false =>
        refine Ev.step (f := fun _ => some true) (fun k => ?_) (Ev.now true)
        simp only [laws_FnHistoryUndo.j0]
        rw [if_neg (by simp), if_neg (by simp)]
      | true =>
        obtain ⟨n, rfl, hn, hok, hf, he⟩ := undo_true hb
        rw [he]
        have ln : (h.eraseIdx n).length = h.length - 1 := List.length_eraseIdx_of_lt hn
        have o1 := implOkH_ev (h := h.eraseIdx n) hth (by omega)
        rw [okH_erase hok hn hf] at o1
        have o2 := implSame_ev (g := h.eraseIdx n ++ [h[n]]) (h := h) hth (by rw [List.length_append, List.length_singleton]; omega) (by omega)
        rw [again_same hok hn hf] at o2
        have l1 : ([] : List S32).length + (h.eraseIdx n).length < 8796093022208 := by rw [List.length_nil]; omega
        have l2 : ([] ++ h.eraseIdx n).length + ([(⟨(rd_T32 h (n : Int)).f0, (rd_T32 h (n : Int)).f1⟩ : S32)]).length < 8796093022208 := by rw [List.nil_append, List.length_singleton]; omega
        refine Ev.sb o1 (fun k hk => ?_) (f := fun k => (impl_HistorySame.f k th (h.eraseIdx n ++ [h[n]]) h).bind fun t => some t) (Ev.cb o2 (fun k hk => by rw [hk, Option.bind_some]) (Ev.now true))
        rw [laws_FnHistoryUndo.j0, if_neg (by simp), if_pos rfl, Option.bind_some, if_pos l1, Option.bind_some, if_pos (by omega), if_pos (by omega), Option.bind_some, if_pos l2, hk, Option.bind_some, if_pos rfl, rdE_at _ _ hn, List.nil_append]
    obtain ⟨K4, h4⟩ := fin
    have h0 : ∀ k, K0 ≤ k → spec_DrawHistoryUndo.f k l0 = some (th, h, i) := h0
    have h1 : ∀ k, K1 ≤ k → impl_HistoryUndo.f k th h i = some (undoP th h i) := h1
    have h2 : ∀ k, K2 ≤ k → spec_HistoryUndo.f k th h i = some (undoP th h i) := h2
    have h3 : ∀ k, K3 ≤ k → laws_mnEvents.f k (undoP th h i).1 (undoP th h i).1 = some true := h3
    have h4 : ∀ k, K4 ≤ k → laws_FnHistoryUndo.j0 k th h i (undoP th h i).1 (undoP th h i).2 false = some true := h4
    have e1 : ((undoP th h i).2 != (undoP th h i).2) = false := by simp
    refine ⟨K0 + K1 + K2 + K3 + K4, ?_⟩
    unfold laws_FnHistoryUndo.f
    rw [if_neg hl, h0 _ (by omega), Option.bind_some, h1 _ (by omega), Option.bind_some, h2 _ (by omega), Option.bind_some, h3 _ (by omega), Option.bind_some, if_pos rfl, e1]
    exact h4 _ (by omega)
end Go.Proofs.Ythljlnkanllpnaa.Pure
