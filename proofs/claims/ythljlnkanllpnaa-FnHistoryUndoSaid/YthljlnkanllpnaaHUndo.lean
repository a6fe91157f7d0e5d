/- HistoryUndo, with the closure that it hands to slices.ContainsFunc. No condition. -/
import Derived.Test.YthljlnkanllpnaaP0
import Derived.Test.YthljlnkanllpnaaP2
import Derived.Test.YthljlnkanllpnaaP3
import Derived.Test.YthljlnkanllpnaaHEv
namespace Go.Proofs.Ythljlnkanllpnaa.P
open Go.RowKit Go.Proofs.YthljlnkanllpnaaW.PrintWords Go.Proofs.YthljlnkanllpnaaW.PrintLast Go.Proofs.YthljlnkanllpnaaW.PrintMore Go.Proofs.Ythljlnkanllpnaa.Any
set_option linter.unusedVariables false
set_option linter.unusedSimpArgs false
set_option maxHeartbeats 8000000 in
set_option maxRecDepth 100000 in
theorem linkedPred (g4 g5 : Nat) (A : Option Addr) (c : Nat) (xs : List S32) (i : Nat) (hi : i < xs.length) (w : World) (hr : Kd.C k32 w A xs.length xs) (h4 : w.heap[g4]? = some (.cells #[.slice A xs.length c] 24 (0, 0))) (h5 : w.heap[g5]? = some (.cells #[.int .i64 (i : Int)] 3 (0, 0))) :
    PredE 67 #[.pointer (some ⟨g4, 0, none⟩), .pointer (some ⟨g5, 0, none⟩)] (fun y => impl_linked.f (rd_T32 xs (i : Int)).f0 (rd_T32 xs (i : Int)).f1 y.f0 y.f1) w := by
  intro y b W hB hp
  have hu32 := Try.underlying32
  have hcall := fun W' => impl_linked.calls (rd_T32 xs (i : Int)).f0 (rd_T32 xs (i : Int)).f1 y.f0 y.f1 b W' hp
  obtain ⟨ad, e, hx0, hx1⟩ := at_T32 hr (i : Int) (by omega) (by omega)
  cases e
  replace hx0 := (hB.cell (World.block_lt_of_cell? w _ hx0)).trans hx0
  replace hx1 := (hB.cell (World.block_lt_of_cell? w _ hx1)).trans hx1
  simp only [Int.toNat_natCast] at hx0 hx1
  have HB4 := Aside0.mk (blk_below h4 hB)
  have HB5 := Aside0.mk (blk_below h5 hB)
  generalize (rd_T32 xs (i : Int)).f0 = q0 at hx0 hx1 hcall
  generalize (rd_T32 xs (i : Int)).f1 = q1 at hx0 hx1 hcall
  obtain ⟨y0, y1⟩ := y
  dsimp only at hcall ⊢
  have HC := Aside0.mk hcall
  have HX0 := Aside0.mk hx0
  have HX1 := Aside0.mk hx1
  have HB := Aside0.mk (Below.refl W.heap.size W)
  have b0 : (0 ≤ (i : Int)) = True := eq_true (by omega)
  have b1 : ((i : Int) < (xs.length : Int)) = True := eq_true (by omega)
  have b2 : decide (i < xs.length) = true := decide_eq_true hi
  clear hr h4 h5 hB hp hcall hx0 hx1 hi
  show Calls Try.prog 67 #[.agg #[.int .i64 y0, .int .i64 y1], .pointer (some ⟨g4, 0, none⟩), .pointer (some ⟨g5, 0, none⟩)] W _
  go_enter Try.func67, Try.ntmps67
  try go_wp2_with (first | ((with_reducible refine gate_dst (N := 3) rfl ?_); refine box_event ?hg (N := 3) ?hd (cs := #[.int .i64 y0, .int .i64 y1]) (t := 32) ?hr ?_; (case hd => rfl); (case hg => rfl); (case hr => first | (go_simp; done) | (go_simp; rfl)); intro g3 hg w5 hbox hb; have n0_ := Aside0.mk (below_step HB.out hb); have BK := Aside0.mk hbox; have n1_ := Aside0.mk (blk_below HB4.out hb); have n2_ := Aside0.mk (blk_below HB5.out hb); have n3_ := Aside0.mk ((hb.cell (World.block_lt_of_cell? W _ HX0.out)).trans HX0.out); have n4_ := Aside0.mk ((hb.cell (World.block_lt_of_cell? W _ HX1.out)).trans HX1.out); clear HB HB4 HB5 HX0 HX1; have HB := n0_; have HB4 := n1_; have HB5 := n2_; have HX0 := n3_; have HX1 := n4_; clear n0_ n1_ n2_ n3_ n4_ hb hbox hg))
  have hb_ : Below w5.heap.size w5 w5.drew := below_drew1 (Below.refl _ _)
  have n0_ := Aside0.mk (below_step HB.out hb_)
  have n1_ := Aside0.mk (blk_below HB4.out hb_)
  have n2_ := Aside0.mk (blk_below HB5.out hb_)
  have n3_ := Aside0.mk ((hb_.cell (World.block_lt_of_cell? w5 _ HX0.out)).trans HX0.out)
  have n4_ := Aside0.mk ((hb_.cell (World.block_lt_of_cell? w5 _ HX1.out)).trans HX1.out)
  have n5_ := Aside0.mk (blk_below BK.out hb_)
  clear HB HB4 HB5 HX0 HX1 BK hb_
  refine start_ (n := 7) (S := fun w' => w'.cell? ⟨g4, 0, none⟩ = some (.slice (some ad) xs.length c) ∧ w'.cell? ⟨g5, 0, none⟩ = some (.int .i64 (i : Int)) ∧ w'.cell? (ad.add (i * 2)) = some (.int .i64 q0) ∧ w'.cell? ⟨(ad.add (i * 2)).block, (ad.add (i * 2)).off + 1, none⟩ = some (.int .i64 q1) ∧ w'.cell? ⟨g3, 0, none⟩ = some (.int .i64 y0) ∧ w'.cell? ⟨g3, 1, none⟩ = some (.int .i64 y1)) (ds := []) #[false, false, false, false, false, false, false] (by kernel_rfl) rfl rfl ⟨(blk_cell n1_.out 0).trans rfl, (blk_cell n2_.out 0).trans rfl, n3_.out, n4_.out, (blk_cell n5_.out 0).trans rfl, (blk_cell n5_.out 1).trans rfl⟩ (fun hHeld => ?_)
  generalize w5.drew = w6 at n0_ n1_ n2_ n3_ n4_ n5_ hHeld ⊢
  refine take_ (i := 0) (N := some 5) (v := ?_) (a' := ?_) #[true, false, false, false, false, false, false] rfl rfl (by kernel_rfl) (fun _ _ _ h => h) (Or.inl ⟨by rfl, ?_⟩) hHeld ?_ ?_
  rotate_left
  · rintro w' ⟨s0, s1, s2, s3, s4, s5⟩
    go_simp
    with_reducible rfl
  rotate_left
  · simp only [Act.put, List.setIfInBounds_toArray, List.set_cons_zero, List.set_cons_succ, i64_w, i32_w]
    rfl
  refine take_ (i := 1) (N := some 6) (v := ?_) (a' := ?_) #[true, true, false, false, false, false, false] rfl rfl (by kernel_rfl) (fun _ _ _ h => h) (Or.inl ⟨by rfl, ?_⟩) hHeld ?_ ?_
  rotate_left
  · rintro w' ⟨s0, s1, s2, s3, s4, s5⟩
    go_simp
    with_reducible rfl
  rotate_left
  · simp only [Act.put, List.setIfInBounds_toArray, List.set_cons_zero, List.set_cons_succ, i64_w, i32_w]
    rfl
  refine pure_ (i := 2) (N := some 7) (v := ?_) (a' := ?_) #[true, true, true, false, false, false, false] rfl rfl (by kernel_rfl) (fun _ _ _ h => h) (Or.inl ⟨by rfl, ?_⟩) ?_ ?_
  rotate_left
  · intro w'
    go_simp
    with_reducible rfl
  rotate_left
  · simp only [Act.put, List.setIfInBounds_toArray, List.set_cons_zero, List.set_cons_succ, i64_w, i32_w]
    rfl
  refine take_ (i := 3) (N := some 8) (v := ?_) (a' := ?_) #[true, true, true, true, false, false, false] rfl rfl (by kernel_rfl) (fun _ _ _ h => h) (Or.inl ⟨by rfl, ?_⟩) hHeld ?_ ?_
  rotate_left
  · rintro w' ⟨s0, s1, s2, s3, s4, s5⟩
    go_simp
    with_reducible rfl
  rotate_left
  · simp only [Act.put, List.setIfInBounds_toArray, List.set_cons_zero, List.set_cons_succ, i64_w, i32_w]
    rfl
  refine take_ (i := 4) (N := some 9) (v := ?_) (a' := ?_) #[true, true, true, true, true, false, false] rfl rfl (by kernel_rfl) (fun _ _ _ h => h) (Or.inl ⟨by rfl, ?_⟩) hHeld ?_ ?_
  rotate_left
  · rintro w' ⟨s0, s1, s2, s3, s4, s5⟩
    go_simp
    with_reducible rfl
  rotate_left
  · simp only [Act.put, List.setIfInBounds_toArray, List.set_cons_zero, List.set_cons_succ, i64_w, i32_w]
    rfl
  refine one_ (i := 5) (N := some 10) #[true, true, true, true, true, true, false] rfl rfl (by kernel_rfl) (by decide) (fun K hK => ?_)
  refine goes_ Try.func68 (by kernel_rfl) rfl #[.agg #[.int .i64 q0, .int .i64 q1], .agg #[.int .i64 y0, .int .i64 y1]] (by rfl) rfl rfl (by (try simp only [List.map_toArray, List.map_cons, List.map_nil]); first | done | rfl) ?_
  refine (HC.out w6).mono ?_
  rintro e w7 ⟨rfl, hb⟩
  refine ⟨_, rfl, ?_⟩
  have HB := Aside0.mk (below_step n0_.out hb)
  refine hK.out _ _ ⟨(blk_cell (blk_below n1_.out hb) 0).trans rfl, (blk_cell (blk_below n2_.out hb) 0).trans rfl, (hb.cell (World.block_lt_of_cell? w6 _ n3_.out)).trans n3_.out, (hb.cell (World.block_lt_of_cell? w6 _ n4_.out)).trans n4_.out, (blk_cell (blk_below n5_.out hb) 0).trans rfl, (blk_cell (blk_below n5_.out hb) 1).trans rfl⟩ (fun hHeld => ?_)
  clear hK K n0_ n1_ n2_ n3_ n4_ n5_ hb
  refine norm_ (a' := ?_) ?_ ?_
  rotate_left
  · show Act.put _ (some 10) _ = _
    simp only [Act.put, List.setIfInBounds_toArray, List.set_cons_zero, List.set_cons_succ, i64_w, i32_w]
    rfl
  refine pure_ (i := 6) (N := some 4) (v := ?_) (a' := ?_) #[true, true, true, true, true, true, true] rfl rfl (by kernel_rfl) (fun _ _ _ h => h) (Or.inl ⟨by rfl, ?_⟩) ?_ ?_
  rotate_left
  · intro w'
    go_simp
    with_reducible rfl
  rotate_left
  · simp only [Act.put, List.setIfInBounds_toArray, List.set_cons_zero, List.set_cons_succ, i64_w, i32_w]
    rfl
  refine done_ (by kernel_rfl) ?_
  try go_wp2
  go_ret
  exact ⟨rfl, HB.out⟩
def undoPred (l1 : List S32) (a2 : Int) (y : S32) : Option Bool := impl_linked.f (rd_T32 l1 a2).f0 (rd_T32 l1 a2).f1 y.f0 y.f1
def impl_HistoryUndo.f (k : Nat) (l0 : List (List Int)) (l1 : List S32) (a2 : Int) : Option (List S32 × Bool) := (impl_HistoryOk.f k l0 l1).bind fun t => if t = true then (if a2 < 0 then some ([], false) else (if a2 ≥ (l1.length : Int) then some ([], false) else ((anyOf (undoPred l1 a2) (l1.drop (a2.toNat + 1))).bind fun b => if b = true then some ([], false) else (if l1.length < 8796093022208 then some (l1.eraseIdx a2.toNat, true) else none)))) else some ([], false)
theorem impl_HistoryUndo.mono : ∀ a0 a1 a2 k, LeO (impl_HistoryUndo.f k a0 a1 a2) (impl_HistoryUndo.f (k + 1) a0 a1 a2) := by
  intro a0 a1 a2 k
  unfold impl_HistoryUndo.f
  exact LeO.bind (impl_HistoryOk.mono a0 a1 k) (fun _ => LeO.refl _)
set_option maxHeartbeats 8000000 in
set_option maxRecDepth 100000 in
theorem impl_HistoryUndo.calls (k : Nat) (A0 : Option Addr) (c0 : Nat) (l0 : List (List Int)) (A1 : Option Addr) (c1 : Nat) (l1 : List (S32)) (a2 : Int) (r1 : List (S32)) (r2 : Bool) (w : World) (hr0 : Kd.C (Kd.slice 3 (Kd.int .i64)) w A0 l0.length l0) (hc0 : l0.length ≤ c0) (hr1 : Kd.C k32 w A1 l1.length l1) (hc1 : l1.length ≤ c1) (h : impl_HistoryUndo.f k l0 l1 a2 = some (r1, r2)) :
    Calls Try.prog 41 #[.slice A0 l0.length c0, .slice A1 l1.length c1, .int .i64 a2] w fun e w' => ∃ v0_ : Value, e = .returned (.tuple #[v0_, .bool r2]) ∧ Kd.R k32 32 w' w.heap.size (fun _ => True) v0_ r1 ∧ Below w.heap.size w w' := by
  have hu24 := Try.underlying24
  have HR0 := Aside0.mk hr0
  have HC0 := Aside0.mk hc0
  have HR1 := Aside0.mk hr1
  have HC1 := Aside0.mk hc1
  have HB := Aside0.mk (Below.refl w.heap.size w)
  clear hr0 hc0 hr1 hc1
  unfold impl_HistoryUndo.f at h
  obtain ⟨t, hok, h⟩ := Option.bind_eq_some_iff.1 h
  have HOK := Aside0.mk hok
  clear hok
  cases t with
  | false =>
    rw [if_neg (by simp)] at h
    obtain ⟨rfl, rfl⟩ := Prod.mk.inj (Option.some.inj h)
    clear h
    go_enter Try.func41, Try.ntmps41
    go_wp2_with (first | ((with_reducible refine gate_dst (N := 4) rfl ?_); refine box_event ?hgA (N := 4) ?hdA (cs := #[.slice A1 l1.length c1]) (t := 24) ?hrA ?_; (case hdA => rfl); (case hgA => rfl); (case hrA => first | (go_simp; done) | (go_simp; rfl)); intro g4 hg w1 hbox hb; have n0_ := Aside0.mk (below_step HB.out hb); have BK4 := Aside0.mk hbox; clear HB; have HB := n0_; clear n0_ hb hbox hg; have hz4 : w1.cell? ⟨g4, 0, none⟩ = some (.slice A1 l1.length c1) := (blk_cell BK4.out 0).trans rfl) | ((with_reducible refine gate_dst (N := 5) rfl ?_); refine box_event ?hgB (N := 5) ?hdB (cs := #[.int .i64 a2]) (t := 3) ?hrB ?_; (case hdB => rfl); (case hgB => rfl); (case hrB => first | (go_simp; done) | (go_simp; rfl)); intro g5 hg w2 hbox hb; have n0_ := Aside0.mk (below_step HB.out hb); have n1_ := Aside0.mk (blk_below BK4.out hb); have BK5 := Aside0.mk hbox; clear HB BK4 hz4; have HB := n0_; have BK4 := n1_; clear n0_ n1_ hb hbox hg; have hz4 : w2.cell? ⟨g4, 0, none⟩ = some (.slice A1 l1.length c1) := (blk_cell BK4.out 0).trans rfl; have hz5 : w2.cell? ⟨g5, 0, none⟩ = some (.int .i64 a2) := (blk_cell BK5.out 0).trans rfl) | (go_at_call 27; (with_reducible refine (impl_HistoryOk.calls k A0 c0 l0 A1 c1 l1 false w2 (Kd.C_below HR0.out HB.out) HC0.out (Kd.C_below HR1.out HB.out) HC1.out HOK.out).mono ?_); rintro e w3 ⟨rfl, hb⟩; have n0_ := Aside0.mk (below_step HB.out hb); have n1_ := Aside0.mk (blk_below BK4.out hb); have n2_ := Aside0.mk (blk_below BK5.out hb); clear HB BK4 BK5 hz4 hz5; have HB := n0_; have BK4 := n1_; have BK5 := n2_; clear n0_ n1_ n2_ hb; have hz4 : w3.cell? ⟨g4, 0, none⟩ = some (.slice A1 l1.length c1) := (blk_cell BK4.out 0).trans rfl; have hz5 : w3.cell? ⟨g5, 0, none⟩ = some (.int .i64 a2) := (blk_cell BK5.out 0).trans rfl))
    go_ret2
    exact ⟨_, rfl, Kd.R_nil _ _ _ _ _, HB.out⟩
  | true =>
    rw [if_pos rfl] at h
    by_cases e1 : a2 < 0
    · rw [if_pos e1] at h
      obtain ⟨rfl, rfl⟩ := Prod.mk.inj (Option.some.inj h)
      have b1 : decide (a2 < 0) = true := decide_eq_true e1
      clear h e1
      go_enter Try.func41, Try.ntmps41
      go_wp2_with (first | ((with_reducible refine gate_dst (N := 4) rfl ?_); refine box_event ?hgA (N := 4) ?hdA (cs := #[.slice A1 l1.length c1]) (t := 24) ?hrA ?_; (case hdA => rfl); (case hgA => rfl); (case hrA => first | (go_simp; done) | (go_simp; rfl)); intro g4 hg w1 hbox hb; have n0_ := Aside0.mk (below_step HB.out hb); have BK4 := Aside0.mk hbox; clear HB; have HB := n0_; clear n0_ hb hbox hg; have hz4 : w1.cell? ⟨g4, 0, none⟩ = some (.slice A1 l1.length c1) := (blk_cell BK4.out 0).trans rfl) | ((with_reducible refine gate_dst (N := 5) rfl ?_); refine box_event ?hgB (N := 5) ?hdB (cs := #[.int .i64 a2]) (t := 3) ?hrB ?_; (case hdB => rfl); (case hgB => rfl); (case hrB => first | (go_simp; done) | (go_simp; rfl)); intro g5 hg w2 hbox hb; have n0_ := Aside0.mk (below_step HB.out hb); have n1_ := Aside0.mk (blk_below BK4.out hb); have BK5 := Aside0.mk hbox; clear HB BK4 hz4; have HB := n0_; have BK4 := n1_; clear n0_ n1_ hb hbox hg; have hz4 : w2.cell? ⟨g4, 0, none⟩ = some (.slice A1 l1.length c1) := (blk_cell BK4.out 0).trans rfl; have hz5 : w2.cell? ⟨g5, 0, none⟩ = some (.int .i64 a2) := (blk_cell BK5.out 0).trans rfl) | (go_at_call 27; (with_reducible refine (impl_HistoryOk.calls k A0 c0 l0 A1 c1 l1 true w2 (Kd.C_below HR0.out HB.out) HC0.out (Kd.C_below HR1.out HB.out) HC1.out HOK.out).mono ?_); rintro e w3 ⟨rfl, hb⟩; have n0_ := Aside0.mk (below_step HB.out hb); have n1_ := Aside0.mk (blk_below BK4.out hb); have n2_ := Aside0.mk (blk_below BK5.out hb); clear HB BK4 BK5 hz4 hz5; have HB := n0_; have BK4 := n1_; have BK5 := n2_; clear n0_ n1_ n2_ hb; have hz4 : w3.cell? ⟨g4, 0, none⟩ = some (.slice A1 l1.length c1) := (blk_cell BK4.out 0).trans rfl; have hz5 : w3.cell? ⟨g5, 0, none⟩ = some (.int .i64 a2) := (blk_cell BK5.out 0).trans rfl))
      go_ret2
      exact ⟨_, rfl, Kd.R_nil _ _ _ _ _, HB.out⟩
    · rw [if_neg e1] at h
      have b1 : decide (a2 < 0) = false := decide_eq_false e1
      by_cases e2 : a2 ≥ (l1.length : Int)
      · rw [if_pos e2] at h
        obtain ⟨rfl, rfl⟩ := Prod.mk.inj (Option.some.inj h)
        have b2 : decide ((l1.length : Int) ≤ a2) = true := decide_eq_true e2
        clear h e1 e2
        go_enter Try.func41, Try.ntmps41
        go_wp2_with (first | ((with_reducible refine gate_dst (N := 4) rfl ?_); refine box_event ?hgA (N := 4) ?hdA (cs := #[.slice A1 l1.length c1]) (t := 24) ?hrA ?_; (case hdA => rfl); (case hgA => rfl); (case hrA => first | (go_simp; done) | (go_simp; rfl)); intro g4 hg w1 hbox hb; have n0_ := Aside0.mk (below_step HB.out hb); have BK4 := Aside0.mk hbox; clear HB; have HB := n0_; clear n0_ hb hbox hg; have hz4 : w1.cell? ⟨g4, 0, none⟩ = some (.slice A1 l1.length c1) := (blk_cell BK4.out 0).trans rfl) | ((with_reducible refine gate_dst (N := 5) rfl ?_); refine box_event ?hgB (N := 5) ?hdB (cs := #[.int .i64 a2]) (t := 3) ?hrB ?_; (case hdB => rfl); (case hgB => rfl); (case hrB => first | (go_simp; done) | (go_simp; rfl)); intro g5 hg w2 hbox hb; have n0_ := Aside0.mk (below_step HB.out hb); have n1_ := Aside0.mk (blk_below BK4.out hb); have BK5 := Aside0.mk hbox; clear HB BK4 hz4; have HB := n0_; have BK4 := n1_; clear n0_ n1_ hb hbox hg; have hz4 : w2.cell? ⟨g4, 0, none⟩ = some (.slice A1 l1.length c1) := (blk_cell BK4.out 0).trans rfl; have hz5 : w2.cell? ⟨g5, 0, none⟩ = some (.int .i64 a2) := (blk_cell BK5.out 0).trans rfl) | (go_at_call 27; (with_reducible refine (impl_HistoryOk.calls k A0 c0 l0 A1 c1 l1 true w2 (Kd.C_below HR0.out HB.out) HC0.out (Kd.C_below HR1.out HB.out) HC1.out HOK.out).mono ?_); rintro e w3 ⟨rfl, hb⟩; have n0_ := Aside0.mk (below_step HB.out hb); have n1_ := Aside0.mk (blk_below BK4.out hb); have n2_ := Aside0.mk (blk_below BK5.out hb); clear HB BK4 BK5 hz4 hz5; have HB := n0_; have BK4 := n1_; have BK5 := n2_; clear n0_ n1_ n2_ hb; have hz4 : w3.cell? ⟨g4, 0, none⟩ = some (.slice A1 l1.length c1) := (blk_cell BK4.out 0).trans rfl; have hz5 : w3.cell? ⟨g5, 0, none⟩ = some (.int .i64 a2) := (blk_cell BK5.out 0).trans rfl))
        go_ret2
        exact ⟨_, rfl, Kd.R_nil _ _ _ _ _, HB.out⟩
      · rw [if_neg e2] at h
        have b2 : decide ((l1.length : Int) ≤ a2) = false := decide_eq_false e2
        obtain ⟨t2, hany, h⟩ := Option.bind_eq_some_iff.1 h
        have HANY := Aside0.mk hany
        obtain ⟨i, rfl⟩ : ∃ i : Nat, a2 = i := ⟨a2.toNat, by omega⟩
        have hi : i < l1.length := by omega
        rw [Int.toNat_natCast] at hany h
        have hany2 : anyOf (undoPred l1 (i : Int)) (l1.drop (i + 1)) = some t2 := hany
        have HANY2 := Aside0.mk hany2
        obtain ⟨ad, ead, _⟩ := HR1.out.2.2 (by omega)
        subst ead
        have hmax : l1.length ≤ 9223372036854775807 := HR1.out.2.1
        have HI := Aside0.mk hi
        have p0 : (0 ≤ (i : Int)) = True := eq_true (by omega)
        have p1 : (0 ≤ (i : Int) + 1) = True := eq_true (by omega)
        have p2 : (i : Int) + 1 ≤ (l1.length : Int) := by omega
        have p3 : i + 1 ≤ l1.length := by omega
        have HWI := Aside0.mk (show wrap64 ((i : Int) + 1) = (i : Int) + 1 from by unfold wrap64; omega)
        clear hany hany2 e1 e2
        have hcall := fun (g4 g5 : Nat) (W : World) (hb : Below w.heap.size w W) (h4 : W.heap[g4]? = some (.cells #[.slice (some ad) l1.length c1] 24 (0, 0))) (h5 : W.heap[g5]? = some (.cells #[.int .i64 (i : Int)] 3 (0, 0))) =>
          anyE 67 #[.pointer (some ⟨g4, 0, none⟩), .pointer (some ⟨g5, 0, none⟩)] (fun args w => by rfl) (undoPred l1 (i : Int)) (if c1 = i + 1 then some ad else (some ad).map (·.add ((i + 1) * k32.sz))) (c1 - (i + 1)) (l1.drop (i + 1)) W
            (linkedPred g4 g5 (some ad) c1 l1 i HI.out W (Kd.C_below HR1.out hb) h4 h5) (Kd.C_drop (Kd.C_below HR1.out hb) (by omega) HC1.out) (by rw [List.length_drop]; have := HC1.out; omega) t2 HANY2.out
        simp only [List.length_drop, Option.map_some, show k32.sz = 2 from rfl] at hcall
        have HCALL := Aside0.mk hcall
        clear hcall
        have q3 : (c1 = i + 1) = True ∨ (c1 = i + 1) = False := by
          by_cases hh : c1 = i + 1
          · exact .inl (eq_true hh)
          · exact .inr (eq_false hh)
        cases t2 with
        | true =>
          rw [if_pos rfl] at h
          obtain ⟨rfl, rfl⟩ := Prod.mk.inj (Option.some.inj h)
          clear h
          rcases q3 with q4 | q4
          · go_enter Try.func41, Try.ntmps41
            go_wp2_with (first | ((with_reducible refine gate_dst (N := 4) rfl ?_); refine box_event ?hgA (N := 4) ?hdA (cs := #[.slice (some ad) l1.length c1]) (t := 24) ?hrA ?_; (case hdA => rfl); (case hgA => rfl); (case hrA => first | (go_simp; done) | (go_simp; rfl)); intro g4 hg w1 hbox hb; have n0_ := Aside0.mk (below_step HB.out hb); have BK4 := Aside0.mk hbox; clear HB; have HB := n0_; clear n0_ hb hbox hg; have hz4 : w1.cell? ⟨g4, 0, none⟩ = some (.slice (some ad) l1.length c1) := (blk_cell BK4.out 0).trans rfl) | ((with_reducible refine gate_dst (N := 5) rfl ?_); refine box_event ?hgB (N := 5) ?hdB (cs := #[.int .i64 (i : Int)]) (t := 3) ?hrB ?_; (case hdB => rfl); (case hgB => rfl); (case hrB => first | (go_simp; done) | (go_simp; rfl)); intro g5 hg w2 hbox hb; have n0_ := Aside0.mk (below_step HB.out hb); have n1_ := Aside0.mk (blk_below BK4.out hb); have BK5 := Aside0.mk hbox; clear HB BK4 hz4; have HB := n0_; have BK4 := n1_; clear n0_ n1_ hb hbox hg; have hz4 : w2.cell? ⟨g4, 0, none⟩ = some (.slice (some ad) l1.length c1) := (blk_cell BK4.out 0).trans rfl; have hz5 : w2.cell? ⟨g5, 0, none⟩ = some (.int .i64 (i : Int)) := (blk_cell BK5.out 0).trans rfl) | (go_at_call 27; (with_reducible refine (impl_HistoryOk.calls k A0 c0 l0 (some ad) c1 l1 true w2 (Kd.C_below HR0.out HB.out) HC0.out (Kd.C_below HR1.out HB.out) HC1.out HOK.out).mono ?_); rintro e w3 ⟨rfl, hb⟩; have n0_ := Aside0.mk (below_step HB.out hb); have n1_ := Aside0.mk (blk_below BK4.out hb); have n2_ := Aside0.mk (blk_below BK5.out hb); clear HB BK4 BK5 hz4 hz5; have HB := n0_; have BK4 := n1_; have BK5 := n2_; clear n0_ n1_ n2_ hb; have hz4 : w3.cell? ⟨g4, 0, none⟩ = some (.slice (some ad) l1.length c1) := (blk_cell BK4.out 0).trans rfl; have hz5 : w3.cell? ⟨g5, 0, none⟩ = some (.int .i64 (i : Int)) := (blk_cell BK5.out 0).trans rfl; have hw_ := HCALL.out g4 g5 w3 HB.out BK4.out BK5.out; simp only [q4, if_true, if_false] at hw_; have HANYW := Aside0.mk hw_; clear hw_) | (go_at_call 66; (with_reducible refine (HANYW.out.mono ?_)); rintro e w4 ⟨rfl, hb⟩; have n0_ := Aside0.mk (below_step HB.out hb); have n1_ := Aside0.mk (blk_below BK4.out hb); have n2_ := Aside0.mk (blk_below BK5.out hb); clear HB BK4 BK5 hz4 hz5 HANYW; have HB := n0_; have BK4 := n1_; have BK5 := n2_; clear n0_ n1_ n2_ hb))
            go_ret2
            exact ⟨_, rfl, Kd.R_nil _ _ _ _ _, HB.out⟩
          · go_enter Try.func41, Try.ntmps41
            go_wp2_with (first | ((with_reducible refine gate_dst (N := 4) rfl ?_); refine box_event ?hgA (N := 4) ?hdA (cs := #[.slice (some ad) l1.length c1]) (t := 24) ?hrA ?_; (case hdA => rfl); (case hgA => rfl); (case hrA => first | (go_simp; done) | (go_simp; rfl)); intro g4 hg w1 hbox hb; have n0_ := Aside0.mk (below_step HB.out hb); have BK4 := Aside0.mk hbox; clear HB; have HB := n0_; clear n0_ hb hbox hg; have hz4 : w1.cell? ⟨g4, 0, none⟩ = some (.slice (some ad) l1.length c1) := (blk_cell BK4.out 0).trans rfl) | ((with_reducible refine gate_dst (N := 5) rfl ?_); refine box_event ?hgB (N := 5) ?hdB (cs := #[.int .i64 (i : Int)]) (t := 3) ?hrB ?_; (case hdB => rfl); (case hgB => rfl); (case hrB => first | (go_simp; done) | (go_simp; rfl)); intro g5 hg w2 hbox hb; have n0_ := Aside0.mk (below_step HB.out hb); have n1_ := Aside0.mk (blk_below BK4.out hb); have BK5 := Aside0.mk hbox; clear HB BK4 hz4; have HB := n0_; have BK4 := n1_; clear n0_ n1_ hb hbox hg; have hz4 : w2.cell? ⟨g4, 0, none⟩ = some (.slice (some ad) l1.length c1) := (blk_cell BK4.out 0).trans rfl; have hz5 : w2.cell? ⟨g5, 0, none⟩ = some (.int .i64 (i : Int)) := (blk_cell BK5.out 0).trans rfl) | (go_at_call 27; (with_reducible refine (impl_HistoryOk.calls k A0 c0 l0 (some ad) c1 l1 true w2 (Kd.C_below HR0.out HB.out) HC0.out (Kd.C_below HR1.out HB.out) HC1.out HOK.out).mono ?_); rintro e w3 ⟨rfl, hb⟩; have n0_ := Aside0.mk (below_step HB.out hb); have n1_ := Aside0.mk (blk_below BK4.out hb); have n2_ := Aside0.mk (blk_below BK5.out hb); clear HB BK4 BK5 hz4 hz5; have HB := n0_; have BK4 := n1_; have BK5 := n2_; clear n0_ n1_ n2_ hb; have hz4 : w3.cell? ⟨g4, 0, none⟩ = some (.slice (some ad) l1.length c1) := (blk_cell BK4.out 0).trans rfl; have hz5 : w3.cell? ⟨g5, 0, none⟩ = some (.int .i64 (i : Int)) := (blk_cell BK5.out 0).trans rfl; have hw_ := HCALL.out g4 g5 w3 HB.out BK4.out BK5.out; simp only [q4, if_true, if_false] at hw_; have HANYW := Aside0.mk hw_; clear hw_) | (go_at_call 66; (with_reducible refine (HANYW.out.mono ?_)); rintro e w4 ⟨rfl, hb⟩; have n0_ := Aside0.mk (below_step HB.out hb); have n1_ := Aside0.mk (blk_below BK4.out hb); have n2_ := Aside0.mk (blk_below BK5.out hb); clear HB BK4 BK5 hz4 hz5 HANYW; have HB := n0_; have BK4 := n1_; have BK5 := n2_; clear n0_ n1_ n2_ hb))
            go_ret2
            exact ⟨_, rfl, Kd.R_nil _ _ _ _ _, HB.out⟩
        | false =>
          rw [if_neg (by simp)] at h
          by_cases e3 : l1.length < 8796093022208
          case neg => rw [if_neg e3] at h; exact absurd h (by simp)
          rw [if_pos e3] at h
          obtain ⟨rfl, rfl⟩ := Prod.mk.inj (Option.some.inj h)
          have HL := Aside0.mk e3
          clear h e3
          rcases q3 with q4 | q4
          · go_enter Try.func41, Try.ntmps41
            try go_wp2_with (first | ((with_reducible refine gate_dst (N := 4) rfl ?_); refine box_event ?hgA (N := 4) ?hdA (cs := #[.slice (some ad) l1.length c1]) (t := 24) ?hrA ?_; (case hdA => rfl); (case hgA => rfl); (case hrA => first | (go_simp; done) | (go_simp; rfl)); intro g4 hg w1 hbox hb; have n0_ := Aside0.mk (below_step HB.out hb); have BK4 := Aside0.mk hbox; clear HB; have HB := n0_; clear n0_ hb hbox hg; have hz4 : w1.cell? ⟨g4, 0, none⟩ = some (.slice (some ad) l1.length c1) := (blk_cell BK4.out 0).trans rfl) | ((with_reducible refine gate_dst (N := 5) rfl ?_); refine box_event ?hgB (N := 5) ?hdB (cs := #[.int .i64 (i : Int)]) (t := 3) ?hrB ?_; (case hdB => rfl); (case hgB => rfl); (case hrB => first | (go_simp; done) | (go_simp; rfl)); intro g5 hg w2 hbox hb; have n0_ := Aside0.mk (below_step HB.out hb); have n1_ := Aside0.mk (blk_below BK4.out hb); have BK5 := Aside0.mk hbox; clear HB BK4 hz4; have HB := n0_; have BK4 := n1_; clear n0_ n1_ hb hbox hg; have hz4 : w2.cell? ⟨g4, 0, none⟩ = some (.slice (some ad) l1.length c1) := (blk_cell BK4.out 0).trans rfl; have hz5 : w2.cell? ⟨g5, 0, none⟩ = some (.int .i64 (i : Int)) := (blk_cell BK5.out 0).trans rfl) | (go_at_call 27; (with_reducible refine (impl_HistoryOk.calls k A0 c0 l0 (some ad) c1 l1 true w2 (Kd.C_below HR0.out HB.out) HC0.out (Kd.C_below HR1.out HB.out) HC1.out HOK.out).mono ?_); rintro e w3 ⟨rfl, hb⟩; have n0_ := Aside0.mk (below_step HB.out hb); have n1_ := Aside0.mk (blk_below BK4.out hb); have n2_ := Aside0.mk (blk_below BK5.out hb); clear HB BK4 BK5 hz4 hz5; have HB := n0_; have BK4 := n1_; have BK5 := n2_; clear n0_ n1_ n2_ hb; have hz4 : w3.cell? ⟨g4, 0, none⟩ = some (.slice (some ad) l1.length c1) := (blk_cell BK4.out 0).trans rfl; have hz5 : w3.cell? ⟨g5, 0, none⟩ = some (.int .i64 (i : Int)) := (blk_cell BK5.out 0).trans rfl; have hw_ := HCALL.out g4 g5 w3 HB.out BK4.out BK5.out; simp only [q4, if_true, if_false] at hw_; have HANYW := Aside0.mk hw_; clear hw_) | (go_at_call 66; (with_reducible refine (HANYW.out.mono ?_)); rintro e w4 ⟨rfl, hb⟩; have n0_ := Aside0.mk (below_step HB.out hb); have n1_ := Aside0.mk (blk_below BK4.out hb); have n2_ := Aside0.mk (blk_below BK5.out hb); clear HB BK4 BK5 hz4 hz5 HANYW; have HB := n0_; have BK4 := n1_; have BK5 := n2_; clear n0_ n1_ n2_ hb))
            have hb_ : Below w4.heap.size w4 w4.drew := below_drew1 (Below.refl _ _)
            have n0_ := Aside0.mk (below_step HB.out hb_)
            have n1_ := Aside0.mk (blk_below BK4.out hb_)
            have n2_ := Aside0.mk (blk_below BK5.out hb_)
            clear HB BK4 BK5 hb_
            refine start_ (n := 8) (S := fun w' => w'.cell? ⟨g4, 0, none⟩ = some (.slice (some ad) l1.length c1) ∧ w'.cell? ⟨g5, 0, none⟩ = some (.int .i64 (i : Int))) (ds := []) #[false, false, false, false, false, false, false, false] (by kernel_rfl) rfl rfl ⟨(blk_cell n1_.out 0).trans rfl, (blk_cell n2_.out 0).trans rfl⟩ (fun hHeld => ?_)
            generalize w4.drew = w5 at n0_ n1_ n2_ hHeld ⊢
            refine take_ (i := 0) (N := some 30) (v := ?_) (a' := ?_) #[true, false, false, false, false, false, false, false] rfl rfl (by kernel_rfl) (fun _ _ _ h => h) (Or.inl ⟨by rfl, ?_⟩) hHeld ?_ ?_
            rotate_left
            · rintro w' ⟨s0, s1⟩
              go_simp
              with_reducible rfl
            rotate_left
            · simp only [Act.put, List.setIfInBounds_toArray, List.set_cons_zero, List.set_cons_succ, i64_w, i32_w]
              rfl
            refine take_ (i := 2) (N := some 32) (v := ?_) (a' := ?_) #[true, false, true, false, false, false, false, false] rfl rfl (by kernel_rfl) (fun _ _ _ h => h) (Or.inl ⟨by rfl, ?_⟩) hHeld ?_ ?_
            rotate_left
            · rintro w' ⟨s0, s1⟩
              go_simp
              with_reducible rfl
            rotate_left
            · simp only [Act.put, List.setIfInBounds_toArray, List.set_cons_zero, List.set_cons_succ, i64_w, i32_w]
              rfl
            refine take_ (i := 3) (N := some 33) (v := ?_) (a' := ?_) #[true, false, true, true, false, false, false, false] rfl rfl (by kernel_rfl) (fun _ _ _ h => h) (Or.inl ⟨by rfl, ?_⟩) hHeld ?_ ?_
            rotate_left
            · rintro w' ⟨s0, s1⟩
              go_simp
              with_reducible rfl
            rotate_left
            · simp only [Act.put, List.setIfInBounds_toArray, List.set_cons_zero, List.set_cons_succ, i64_w, i32_w]
              rfl
            refine pure_ (i := 4) (N := some 34) (v := ?_) (a' := ?_) #[true, false, true, true, true, false, false, false] rfl rfl (by kernel_rfl) (fun _ _ _ h => h) (Or.inl ⟨by rfl, ?_⟩) ?_ ?_
            rotate_left
            · intro w'
              go_simp
              with_reducible rfl
            rotate_left
            · simp only [Act.put, List.setIfInBounds_toArray, List.set_cons_zero, List.set_cons_succ, i64_w, i32_w, HWI.out]
              rfl
            refine one_ (i := 1) (N := some 31) #[true, true, true, true, true, false, false, false] rfl rfl (by kernel_rfl) (by decide) (fun K hK => ?_)
            refine goes_ Try.func70 (by kernel_rfl) rfl #[.slice (some ad) l1.length c1] (by rfl) rfl rfl (by (try simp only [List.map_toArray, List.map_cons, List.map_nil]); first | done | rfl) ?_
            refine (cloneE (some ad) c1 l1 w5 (Kd.C_below HR1.out n0_.out) HC1.out HL.out).mono ?_
            rintro e w6 ⟨v6, rfl, ho, hb⟩
            refine ⟨_, rfl, ?_⟩
            have m0_ := Aside0.mk (below_step n0_.out hb)
            have m1_ := Aside0.mk (blk_below n1_.out hb)
            have m2_ := Aside0.mk (blk_below n2_.out hb)
            have m3_ := Aside0.mk (Kd.R_lower ho n0_.out.size)
            clear n0_ n1_ n2_ ho hb
            obtain ⟨g6, cap6, e6, _, _, cells6, HG6⟩ := Kd.R_form m3_.out (by have := HI.out; omega)
            subst e6
            refine hK.out _ _ ⟨(blk_cell m1_.out 0).trans rfl, (blk_cell m2_.out 0).trans rfl⟩ (fun hHeld => ?_)
            clear hK K HG6
            refine norm_ (a' := ?_) ?_ ?_
            rotate_left
            · show Act.put _ (some 31) _ = _
              simp only [Act.put, List.setIfInBounds_toArray, List.set_cons_zero, List.set_cons_succ, i64_w, i32_w]
              rfl
            obtain ⟨m, hm⟩ : ∃ m, l1.length = m + 1 := ⟨l1.length - 1, by have := HI.out; omega⟩
            have HM := Aside0.mk hm
            have hdel := deleteE g6 cap6 i m l1 (fun _ => True) w w6 m0_.out hm (by rw [← hm]; exact m3_.out) (by have := HI.out; omega)
            rw [← hm] at hdel
            clear hm
            refine one_ (i := 5) (N := some 35) #[true, true, true, true, true, true, false, false] rfl rfl (by kernel_rfl) (by decide) (fun K hK => ?_)
            refine goes_ Try.func69 (by kernel_rfl) rfl #[.slice (some ⟨g6, 0, none⟩) l1.length cap6, .int .i64 (i : Int), .int .i64 ((i : Int) + 1)] (by rfl) rfl rfl (by (try simp only [List.map_toArray, List.map_cons, List.map_nil]); first | done | rfl) ?_
            refine hdel.mono ?_
            rintro e w7 ⟨rfl, ho, hb, hg⟩
            refine ⟨_, rfl, ?_⟩
            clear hdel
            have HO := Aside0.mk ho
            have HB := Aside0.mk hb
            have hne4 : some g4 ≠ some g6 := Kd.R_ne m3_.out m1_.out (by decide)
            have hne5 : some g5 ≠ some g6 := Kd.R_ne m3_.out m2_.out (by decide)
            have n1_ := Aside0.mk (blk_grown m1_.out hg hne4)
            have n2_ := Aside0.mk (blk_grown m2_.out hg hne5)
            clear m0_ m1_ m2_ m3_ ho hb hg hne4 hne5
            refine hK.out _ _ ⟨(blk_cell n1_.out 0).trans rfl, (blk_cell n2_.out 0).trans rfl⟩ (fun hHeld => ?_)
            clear hK K
            refine norm_ (a' := ?_) ?_ ?_
            rotate_left
            · show Act.put _ (some 35) _ = _
              simp only [Act.put, List.setIfInBounds_toArray, List.set_cons_zero, List.set_cons_succ, i64_w, i32_w]
              rfl
            refine pure_ (i := 6) (N := some 6) (v := ?_) (a' := ?_) #[true, true, true, true, true, true, true, false] rfl rfl (by kernel_rfl) (fun _ _ _ h => h) (Or.inl ⟨by rfl, ?_⟩) ?_ ?_
            rotate_left
            · intro w'
              go_simp
              with_reducible rfl
            rotate_left
            · simp only [Act.put, List.setIfInBounds_toArray, List.set_cons_zero, List.set_cons_succ, i64_w, i32_w]
              rfl
            refine pure_ (i := 7) (N := some 7) (v := ?_) (a' := ?_) #[true, true, true, true, true, true, true, true] rfl rfl (by kernel_rfl) (fun _ _ _ h => h) (Or.inl ⟨by rfl, ?_⟩) ?_ ?_
            rotate_left
            · intro w'
              go_simp
              with_reducible rfl
            rotate_left
            · simp only [Act.put, List.setIfInBounds_toArray, List.set_cons_zero, List.set_cons_succ, i64_w, i32_w]
              rfl
            refine done_ (by kernel_rfl) ?_
            try go_wp2
            go_ret2
            exact ⟨_, rfl, HO.out, HB.out⟩
          · go_enter Try.func41, Try.ntmps41
            try go_wp2_with (first | ((with_reducible refine gate_dst (N := 4) rfl ?_); refine box_event ?hgA (N := 4) ?hdA (cs := #[.slice (some ad) l1.length c1]) (t := 24) ?hrA ?_; (case hdA => rfl); (case hgA => rfl); (case hrA => first | (go_simp; done) | (go_simp; rfl)); intro g4 hg w1 hbox hb; have n0_ := Aside0.mk (below_step HB.out hb); have BK4 := Aside0.mk hbox; clear HB; have HB := n0_; clear n0_ hb hbox hg; have hz4 : w1.cell? ⟨g4, 0, none⟩ = some (.slice (some ad) l1.length c1) := (blk_cell BK4.out 0).trans rfl) | ((with_reducible refine gate_dst (N := 5) rfl ?_); refine box_event ?hgB (N := 5) ?hdB (cs := #[.int .i64 (i : Int)]) (t := 3) ?hrB ?_; (case hdB => rfl); (case hgB => rfl); (case hrB => first | (go_simp; done) | (go_simp; rfl)); intro g5 hg w2 hbox hb; have n0_ := Aside0.mk (below_step HB.out hb); have n1_ := Aside0.mk (blk_below BK4.out hb); have BK5 := Aside0.mk hbox; clear HB BK4 hz4; have HB := n0_; have BK4 := n1_; clear n0_ n1_ hb hbox hg; have hz4 : w2.cell? ⟨g4, 0, none⟩ = some (.slice (some ad) l1.length c1) := (blk_cell BK4.out 0).trans rfl; have hz5 : w2.cell? ⟨g5, 0, none⟩ = some (.int .i64 (i : Int)) := (blk_cell BK5.out 0).trans rfl) | (go_at_call 27; (with_reducible refine (impl_HistoryOk.calls k A0 c0 l0 (some ad) c1 l1 true w2 (Kd.C_below HR0.out HB.out) HC0.out (Kd.C_below HR1.out HB.out) HC1.out HOK.out).mono ?_); rintro e w3 ⟨rfl, hb⟩; have n0_ := Aside0.mk (below_step HB.out hb); have n1_ := Aside0.mk (blk_below BK4.out hb); have n2_ := Aside0.mk (blk_below BK5.out hb); clear HB BK4 BK5 hz4 hz5; have HB := n0_; have BK4 := n1_; have BK5 := n2_; clear n0_ n1_ n2_ hb; have hz4 : w3.cell? ⟨g4, 0, none⟩ = some (.slice (some ad) l1.length c1) := (blk_cell BK4.out 0).trans rfl; have hz5 : w3.cell? ⟨g5, 0, none⟩ = some (.int .i64 (i : Int)) := (blk_cell BK5.out 0).trans rfl; have hw_ := HCALL.out g4 g5 w3 HB.out BK4.out BK5.out; simp only [q4, if_true, if_false] at hw_; have HANYW := Aside0.mk hw_; clear hw_) | (go_at_call 66; (with_reducible refine (HANYW.out.mono ?_)); rintro e w4 ⟨rfl, hb⟩; have n0_ := Aside0.mk (below_step HB.out hb); have n1_ := Aside0.mk (blk_below BK4.out hb); have n2_ := Aside0.mk (blk_below BK5.out hb); clear HB BK4 BK5 hz4 hz5 HANYW; have HB := n0_; have BK4 := n1_; have BK5 := n2_; clear n0_ n1_ n2_ hb))
            have hb_ : Below w4.heap.size w4 w4.drew := below_drew1 (Below.refl _ _)
            have n0_ := Aside0.mk (below_step HB.out hb_)
            have n1_ := Aside0.mk (blk_below BK4.out hb_)
            have n2_ := Aside0.mk (blk_below BK5.out hb_)
            clear HB BK4 BK5 hb_
            refine start_ (n := 8) (S := fun w' => w'.cell? ⟨g4, 0, none⟩ = some (.slice (some ad) l1.length c1) ∧ w'.cell? ⟨g5, 0, none⟩ = some (.int .i64 (i : Int))) (ds := []) #[false, false, false, false, false, false, false, false] (by kernel_rfl) rfl rfl ⟨(blk_cell n1_.out 0).trans rfl, (blk_cell n2_.out 0).trans rfl⟩ (fun hHeld => ?_)
            generalize w4.drew = w5 at n0_ n1_ n2_ hHeld ⊢
            refine take_ (i := 0) (N := some 30) (v := ?_) (a' := ?_) #[true, false, false, false, false, false, false, false] rfl rfl (by kernel_rfl) (fun _ _ _ h => h) (Or.inl ⟨by rfl, ?_⟩) hHeld ?_ ?_
            rotate_left
            · rintro w' ⟨s0, s1⟩
              go_simp
              with_reducible rfl
            rotate_left
            · simp only [Act.put, List.setIfInBounds_toArray, List.set_cons_zero, List.set_cons_succ, i64_w, i32_w]
              rfl
            refine take_ (i := 2) (N := some 32) (v := ?_) (a' := ?_) #[true, false, true, false, false, false, false, false] rfl rfl (by kernel_rfl) (fun _ _ _ h => h) (Or.inl ⟨by rfl, ?_⟩) hHeld ?_ ?_
            rotate_left
            · rintro w' ⟨s0, s1⟩
              go_simp
              with_reducible rfl
            rotate_left
            · simp only [Act.put, List.setIfInBounds_toArray, List.set_cons_zero, List.set_cons_succ, i64_w, i32_w]
              rfl
            refine take_ (i := 3) (N := some 33) (v := ?_) (a' := ?_) #[true, false, true, true, false, false, false, false] rfl rfl (by kernel_rfl) (fun _ _ _ h => h) (Or.inl ⟨by rfl, ?_⟩) hHeld ?_ ?_
            rotate_left
            · rintro w' ⟨s0, s1⟩
              go_simp
              with_reducible rfl
            rotate_left
            · simp only [Act.put, List.setIfInBounds_toArray, List.set_cons_zero, List.set_cons_succ, i64_w, i32_w]
              rfl
            refine pure_ (i := 4) (N := some 34) (v := ?_) (a' := ?_) #[true, false, true, true, true, false, false, false] rfl rfl (by kernel_rfl) (fun _ _ _ h => h) (Or.inl ⟨by rfl, ?_⟩) ?_ ?_
            rotate_left
            · intro w'
              go_simp
              with_reducible rfl
            rotate_left
            · simp only [Act.put, List.setIfInBounds_toArray, List.set_cons_zero, List.set_cons_succ, i64_w, i32_w, HWI.out]
              rfl
            refine one_ (i := 1) (N := some 31) #[true, true, true, true, true, false, false, false] rfl rfl (by kernel_rfl) (by decide) (fun K hK => ?_)
            refine goes_ Try.func70 (by kernel_rfl) rfl #[.slice (some ad) l1.length c1] (by rfl) rfl rfl (by (try simp only [List.map_toArray, List.map_cons, List.map_nil]); first | done | rfl) ?_
            refine (cloneE (some ad) c1 l1 w5 (Kd.C_below HR1.out n0_.out) HC1.out HL.out).mono ?_
            rintro e w6 ⟨v6, rfl, ho, hb⟩
            refine ⟨_, rfl, ?_⟩
            have m0_ := Aside0.mk (below_step n0_.out hb)
            have m1_ := Aside0.mk (blk_below n1_.out hb)
            have m2_ := Aside0.mk (blk_below n2_.out hb)
            have m3_ := Aside0.mk (Kd.R_lower ho n0_.out.size)
            clear n0_ n1_ n2_ ho hb
            obtain ⟨g6, cap6, e6, _, _, cells6, HG6⟩ := Kd.R_form m3_.out (by have := HI.out; omega)
            subst e6
            refine hK.out _ _ ⟨(blk_cell m1_.out 0).trans rfl, (blk_cell m2_.out 0).trans rfl⟩ (fun hHeld => ?_)
            clear hK K HG6
            refine norm_ (a' := ?_) ?_ ?_
            rotate_left
            · show Act.put _ (some 31) _ = _
              simp only [Act.put, List.setIfInBounds_toArray, List.set_cons_zero, List.set_cons_succ, i64_w, i32_w]
              rfl
            obtain ⟨m, hm⟩ : ∃ m, l1.length = m + 1 := ⟨l1.length - 1, by have := HI.out; omega⟩
            have HM := Aside0.mk hm
            have hdel := deleteE g6 cap6 i m l1 (fun _ => True) w w6 m0_.out hm (by rw [← hm]; exact m3_.out) (by have := HI.out; omega)
            rw [← hm] at hdel
            clear hm
            refine one_ (i := 5) (N := some 35) #[true, true, true, true, true, true, false, false] rfl rfl (by kernel_rfl) (by decide) (fun K hK => ?_)
            refine goes_ Try.func69 (by kernel_rfl) rfl #[.slice (some ⟨g6, 0, none⟩) l1.length cap6, .int .i64 (i : Int), .int .i64 ((i : Int) + 1)] (by rfl) rfl rfl (by (try simp only [List.map_toArray, List.map_cons, List.map_nil]); first | done | rfl) ?_
            refine hdel.mono ?_
            rintro e w7 ⟨rfl, ho, hb, hg⟩
            refine ⟨_, rfl, ?_⟩
            clear hdel
            have HO := Aside0.mk ho
            have HB := Aside0.mk hb
            have hne4 : some g4 ≠ some g6 := Kd.R_ne m3_.out m1_.out (by decide)
            have hne5 : some g5 ≠ some g6 := Kd.R_ne m3_.out m2_.out (by decide)
            have n1_ := Aside0.mk (blk_grown m1_.out hg hne4)
            have n2_ := Aside0.mk (blk_grown m2_.out hg hne5)
            clear m0_ m1_ m2_ m3_ ho hb hg hne4 hne5
            refine hK.out _ _ ⟨(blk_cell n1_.out 0).trans rfl, (blk_cell n2_.out 0).trans rfl⟩ (fun hHeld => ?_)
            clear hK K
            refine norm_ (a' := ?_) ?_ ?_
            rotate_left
            · show Act.put _ (some 35) _ = _
              simp only [Act.put, List.setIfInBounds_toArray, List.set_cons_zero, List.set_cons_succ, i64_w, i32_w]
              rfl
            refine pure_ (i := 6) (N := some 6) (v := ?_) (a' := ?_) #[true, true, true, true, true, true, true, false] rfl rfl (by kernel_rfl) (fun _ _ _ h => h) (Or.inl ⟨by rfl, ?_⟩) ?_ ?_
            rotate_left
            · intro w'
              go_simp
              with_reducible rfl
            rotate_left
            · simp only [Act.put, List.setIfInBounds_toArray, List.set_cons_zero, List.set_cons_succ, i64_w, i32_w]
              rfl
            refine pure_ (i := 7) (N := some 7) (v := ?_) (a' := ?_) #[true, true, true, true, true, true, true, true] rfl rfl (by kernel_rfl) (fun _ _ _ h => h) (Or.inl ⟨by rfl, ?_⟩) ?_ ?_
            rotate_left
            · intro w'
              go_simp
              with_reducible rfl
            rotate_left
            · simp only [Act.put, List.setIfInBounds_toArray, List.set_cons_zero, List.set_cons_succ, i64_w, i32_w]
              rfl
            refine done_ (by kernel_rfl) ?_
            try go_wp2
            go_ret2
            exact ⟨_, rfl, HO.out, HB.out⟩
end Go.Proofs.Ythljlnkanllpnaa.P
