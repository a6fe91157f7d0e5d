/- Where an argument is too large nothing is asked: the exact laws over terms with time. No condition. -/
import Derived.Test.YtnkgcjdlfenepaaP0
import Derived.Test.YtnkgcjdlfenepaaTree
import Derived.Test.YtnkgcjdlfenepaaCut
namespace Go.Proofs.Ytnkgcjdlfenepaa.P
open Go.RowKit Go.Proofs.YtnkgcjdlfenepaaW.PrintWords Go.Proofs.YtnkgcjdlfenepaaW.PrintLast Go.Proofs.YtnkgcjdlfenepaaW.PrintMore
attribute [local go_sem] max2_int min2_int max_two min_two max_three min_three max_four min_four
set_option linter.unusedVariables false
set_option linter.unusedSimpArgs false
set_option maxHeartbeats 8000000 in
set_option maxRecDepth 100000 in
theorem exCLater_r (k:Nat) (a b:Int) (A0:Option Addr) (c0:Nat) (l:List S24) (n:Int) (r:Int) (w:World) (hr:Kd.C k24 w A0 l.length l) (hc:l.length ≤ c0) (f1:laws_szClock.f k a b l 1048576 = some r) (b1:decide (r < 0) = true) :
  Calls Try.prog 11 #[.agg #[.int .i64 a,.int .i64 b,.slice A0 l.length c0],.int .i64 n] w fun e w'=>e = .returned (.bool true)∧Below w.heap.size w w':=by
 have HR:=aQ hr
 have HC:=aQ hc
 have F1:=aQ f1
 clear hr hc f1
 have hu24:=Try.underlying24
 have HB:=aQ (Below.refl w.heap.size w)
 go_enter Try.func11,Try.ntmps11
 go_wp2_with (first
  | ((with_reducible refine gate_dst (N:=2) rfl ?_);refine box1 (N:=2) (cs:=#[.int .i64 a,.int .i64 b,.slice A0 l.length c0]) (t:=24) ?_;intro g1 hg_ w1 hbox_ hb_;have BK:=aQ hbox_;replace HB:=aQ (below_step HB.out hb_);clear hg_ hbox_ hb_;obtain ⟨hz0,hz1,hz2,hf0,hf1,hf2⟩:=cz3 BK.out)
  | (go_at_call 13;(with_reducible refine (laws_szClock.calls k a b _ _ l 1048576 r _ (Kd.C_below HR.out HB.out) HC.out F1.out).mono ?_);rintro e w2 ⟨rfl,hb_⟩;replace HB:=aQ (below_step HB.out hb_);clear hb_))
 go_ret
 exact ⟨rfl,HB.out⟩
end Go.Proofs.Ytnkgcjdlfenepaa.P
