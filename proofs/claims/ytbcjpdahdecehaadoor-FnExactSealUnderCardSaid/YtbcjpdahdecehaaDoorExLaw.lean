/- The exact laws on messages: their walks. No condition. -/
import Derived.Test.YtbcjpdahdecehaaDoorP0
import Derived.Test.YtbcjpdahdecehaaDoorP4
import Derived.Test.YtbcjpdahdecehaaDoorExTx
namespace Go.Proofs.YtbcjpdahdecehaaDoor.P
open Go.RowKit Go.Proofs.YtbcjpdahdecehaaDoorW.PrintWords Go.Proofs.YtbcjpdahdecehaaDoorW.PrintLast
set_option linter.unusedVariables false
set_option linter.unusedSimpArgs false
theorem exUnder_pure {x y:S33} (h:Good33 x) (hy:Good33 y):Ev (fun k=>laws_FnExactSealUnder.f k x.f0 x.f1 x.f2 y.f0 y.f1 y.f2) true:=by
 obtain ⟨K0,h0⟩:=sz_ev h 1048576 (by omega) (by omega)
 by_cases hc:(x.cnt:Int) ≤ 1048576
 ·rw [if_pos hc] at h0
  obtain ⟨K9,h9⟩:=sz_ev hy (1048576 - (x.cnt:Int)) (by omega) (by omega)
  by_cases hd:(y.cnt:Int) ≤ 1048576 - (x.cnt:Int)
  ·rw [if_pos hd] at h9
   have hcn:x.cnt ≤ 1048576:=by omega
   have hcm:y.cnt ≤ 1048576:=by omega
   obtain ⟨K1,h1⟩:=to_ev h hcn
   obtain ⟨K5,h5⟩:=to_ev hy hcm
   obtain ⟨K2,h2⟩:=specUnder_ev (conv_W h hcn) (conv_W hy hcm)
   obtain ⟨K3,h3⟩:=implUnder_ev (conv_W h hcn) (conv_W hy hcm)
   obtain ⟨K4,h4⟩:=eq_ev (conv_W h hcn)
   obtain ⟨K6,h6⟩:=eq_ev (conv_W hy hcm)
   simp only [conv_f0,conv_f1,conv_f2] at h2 h3 h4 h6
   refine ⟨K0 + K1 + K2 + K3 + K4 + K5 + K6 + K9,fun k hk=>?_⟩
   simp only [laws_FnExactSealUnder.f,h0 k (by omega),h9 k (by omega),h1 k (by omega),h5 k (by omega),h2 k (by omega),h3 k (by omega),h4 k (by omega),h6 k (by omega),Option.bind_some]
   rw [if_neg (by omega),if_neg (by omega)]
   simp
  ·rw [if_neg hd] at h9
   refine ⟨K0 + K9,fun k hk=>?_⟩
   simp only [laws_FnExactSealUnder.f,h0 k (by omega),h9 k (by omega),Option.bind_some]
   rw [if_neg (by omega),if_pos (by omega)]
 ·rw [if_neg hc] at h0
  exact ⟨K0,fun k hk=>by simp only [laws_FnExactSealUnder.f,h0 k hk,Option.bind_some];rw [if_pos (by omega)]⟩
theorem exUnder_walk (cs:Array Value) (x:S33) (ds:Array Value) (y:S33) (W:World) (hk:k33.K W x cs.toList) (hg:Good33 x) (hk2:k33.K W y ds.toList) (hg2:Good33 y) :
  Calls Tryd.prog 6 #[.agg cs,.agg ds] W fun e w'=>e = .returned (.bool true)∧Below W.heap.size W w':=by
 obtain ⟨A2,c2,hcs,l2,g2⟩:=k33_open hk
 obtain rfl:cs = #[.int .i64 x.f0,.int .i64 x.f1,.slice A2 x.f2.length c2]:=by
  apply Array.toList_inj.1
  simpa using hcs
 obtain ⟨A3,c3,hds,l3,g3⟩:=k33_open hk2
 obtain rfl:ds = #[.int .i64 y.f0,.int .i64 y.f1,.slice A3 y.f2.length c3]:=by
  apply Array.toList_inj.1
  simpa using hds
 obtain ⟨k,h⟩:=(exUnder_pure hg hg2).rounds
 exact laws_FnExactSealUnder.calls k x.f0 x.f1 A2 c2 x.f2 y.f0 y.f1 A3 c3 y.f2 true W g2 l2 g3 l3 h
end Go.Proofs.YtbcjpdahdecehaaDoor.P
