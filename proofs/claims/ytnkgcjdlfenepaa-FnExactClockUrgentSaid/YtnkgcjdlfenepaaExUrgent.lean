/- ClockUrgent of the program answers as the reference's, whatever the argument: the walk of the law. No condition. -/
import Derived.Test.YtnkgcjdlfenepaaP0
import Derived.Test.YtnkgcjdlfenepaaP4
import Derived.Test.YtnkgcjdlfenepaaClkSp
import Derived.Test.YtnkgcjdlfenepaaTree
namespace Go.Proofs.Ytnkgcjdlfenepaa.P
open Go.RowKit Go.Proofs.YtnkgcjdlfenepaaW.PrintWords Go.Proofs.YtnkgcjdlfenepaaW.PrintLast
set_option linter.unusedVariables false
theorem exUrgent_pure {x:S24} (h:Good24 x):Ev (fun k=>laws_FnExactClockUrgent.f k x.f0 x.f1 x.f2) true:=by
 obtain ⟨K0,h0⟩:=sz_ev h 1048576 (by omega) (by omega)
 by_cases hc:(x.cnt:Int) ≤ 1048576
 ·rw [if_pos hc] at h0
  have hcn:x.cnt ≤ 1048576:=by omega
  obtain ⟨K1,h1⟩:=to_ev h hcn
  obtain ⟨K2,h2⟩:=specUrgent_ev (conv_W h hcn)
  obtain ⟨K3,h3⟩:=urgent_ev (conv_W h hcn)
  obtain ⟨K4,h4⟩:=eq_ev (conv_W h hcn)
  simp only [conv_f0,conv_f1,conv_f2] at h2 h3 h4
  refine ⟨K0 + K1 + K2 + K3 + K4,fun k hk=>?_⟩
  simp only [laws_FnExactClockUrgent.f,h0 k (by omega),h1 k (by omega),h2 k (by omega),h3 k (by omega),h4 k (by omega),Option.bind_some]
  rw [if_neg (by omega)]
  simp
 ·rw [if_neg hc] at h0
  exact ⟨K0,fun k hk=>by simp only [laws_FnExactClockUrgent.f,h0 k hk,Option.bind_some];rw [if_pos (by omega)]⟩
theorem exUrgent_walk (cs:Array Value) (x:S24) (W:World) (hk:k24.K W x cs.toList) (hg:Good24 x) :
  Calls Try.prog 5 #[.agg cs] W fun e w'=>e = .returned (.bool true)∧Below W.heap.size W w':=by
 obtain ⟨A2,c2,hcs,l2,g2⟩:=k24_open hk
 obtain rfl:cs = #[.int .i64 x.f0,.int .i64 x.f1,.slice A2 x.f2.length c2]:=by
  apply Array.toList_inj.1
  simpa using hcs
 obtain ⟨k,h⟩:=(exUrgent_pure hg).rounds
 exact laws_FnExactClockUrgent.calls k x.f0 x.f1 A2 c2 x.f2 true W g2 l2 h
end Go.Proofs.Ytnkgcjdlfenepaa.P
