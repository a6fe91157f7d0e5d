/- What writes marks into a term with time given by value, and into a row of steps. No condition. -/
import Derived.Test.YtnkgcjdlfenepaaDMark
import Derived.Test.YtnkgcjdlfenepaaDTree
namespace Go.Proofs.Ytnkgcjdlfenepaa.P
open Go.RowKit Go.Proofs.YtnkgcjdlfenepaaW.PrintWords Go.Proofs.YtnkgcjdlfenepaaW.PrintLast Go.Proofs.YtnkgcjdlfenepaaW.PrintMore
attribute [local go_sem] max2_int min2_int max_two min_two max_three min_three max_four min_four
set_option linter.unusedVariables false
set_option linter.unusedSimpArgs false
def w3 (k:Int):Int:=wrap64 (wrap64 (wrap64 (k + 1) + 1) + 1)
def S44.mk1 (x:S44) (k:Int):Int × S44:=((mkL x.f1.f2 (w3 k)).1,⟨k,⟨wrap64 (k + 1),wrap64 (wrap64 (k + 1) + 1),(mkL x.f1.f2 (w3 k)).2⟩⟩)
set_option maxHeartbeats 8000000 in
set_option maxRecDepth 100000 in
theorem markClock_deep (P0_:Nat → Prop) (u:Value) (a0 b0:Int) (l0:List S29) (a1:Int) (w0 w:World) (hB:Below w0.heap.size w0 w) (ho:Kd.S q29 29 w w0.heap.size P0_ u l0) :
  Calls Try.prog 27 #[.agg #[.int .i64 a0,.int .i64 b0,u],.int .i64 a1] w fun e w'=>e = .returned (.int .i64 (mkL l0 a1).1)∧Kd.S q29 29 w' w0.heap.size P0_ u (mkL l0 a1).2∧Below w0.heap.size w0 w'∧Kept w w' P0_:=by
 have HO0:=aQ ho
 have HB:=aQ hB
 have hu29:=Try.underlying29
 obtain ⟨Au,cu,rfl⟩:=Kd.S_slice ho
 clear hB ho
 go_enter Try.func27,Try.ntmps27
 go_wp2_with (first
  | ((with_reducible refine gate_dst (N:=2) rfl ?_);refine box1 (N:=2) (cs:=#[.int .i64 a0,.int .i64 b0,.slice Au l0.length cu]) (t:=29) ?_;intro gb hg w5 hbox hb;have BK:=aQ hbox;have HB5:=aQ (below_step HB.out (hb.mono (by have:=HB.out.size;omega)));have HBW:=aQ hb;have HO5:=aQ (Kd.S_below HO0.out hb);clear hb hbox hg;obtain ⟨hcz6_0,hcz6_1,hcz6_2,hfz6_0,hfz6_1,hfz6_2⟩:=cz3 BK.out)
  | (go_at_call 54;(with_reducible refine (markClockS_deep (nodesL l0 + 1) P0_ _ l0 a1 w0 _ (Nat.lt_succ_self _) ?side1 ?side2).mono ?_);(case side1=>exact HB5.out);(case side2=>exact HO5.out);rintro e w8 ⟨rfl,hS8,hB8,hK8⟩;have HS8:=aQ hS8;have HB8:=aQ hB8;have HK8:=aQ (Kept.then_ (Kept.of_below HBW.out P0_) hK8 (fun _ hk=>.inl hk));clear hS8 hB8 hK8))
 go_ret
 exact ⟨rfl,HS8.out,HB8.out,HK8.out⟩
end Go.Proofs.Ytnkgcjdlfenepaa.P
