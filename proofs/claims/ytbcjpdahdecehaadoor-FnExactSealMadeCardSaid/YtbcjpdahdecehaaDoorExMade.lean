/- SealMade of the program answers as the reference's, whatever the arguments: the walk of the law. No condition. -/
import Derived.Test.YtbcjpdahdecehaaDoorP0
import Derived.Test.YtbcjpdahdecehaaDoorP4
import Derived.Test.YtbcjpdahdecehaaDoorSealLaw
import Derived.Test.YtbcjpdahdecehaaDoorTree
namespace Go.Proofs.YtbcjpdahdecehaaDoor.P
open Go.RowKit Go.Proofs.YtbcjpdahdecehaaDoorW.PrintWords Go.Proofs.YtbcjpdahdecehaaDoorW.PrintLast
set_option linter.unusedVariables false
set_option linter.unusedSimpArgs false
theorem exMade_pure {l:List S33} (hl:l.length ≤ maxLen) (h:∀ a,a ∈ l → Good33 a) {y:S33} (hy:Good33 y):Ev (fun k=>laws_FnExactSealMade.f k l y.f0 y.f1 y.f2) true:=by
 obtain ⟨K0,h0⟩:=szS_of hl (fun a ha=>sz_ev (h a ha)) 1048576 (by omega) (by omega)
 by_cases hc:((l.length + subL l:Nat):Int) ≤ 1048576
 ·rw [if_pos hc] at h0
  obtain ⟨K9,h9⟩:=sz_ev hy (1048576 - ((l.length + subL l:Nat):Int)) (by omega) (by omega)
  by_cases hd:(y.cnt:Int) ≤ 1048576 - ((l.length + subL l:Nat):Int)
  ·rw [if_pos hd] at h9
   have hce:∀ a,a ∈ l → a.cnt ≤ 1048576:=fun a ha=>by have:=cnt_le_subL ha;omega
   have hcm:y.cnt ≤ 1048576:=by omega
   have hlc:(convL l).length ≤ 1048576:=by rw [convL_map,List.length_map];omega
   have hW:∀ b,b ∈ convL l → W25 b:=fun b hb=>by
    rw [convL_map] at hb
    obtain ⟨a,ha,rfl⟩:=List.mem_map.1 hb
    exact conv_W (h a ha) (hce a ha)
   have hWy:=conv_W hy hcm
   obtain ⟨K1,h1⟩:=toS_of (l:=l) (by omega) (fun a ha=>to_ev (h a ha) (hce a ha))
   obtain ⟨K5,h5⟩:=to_ev hy hcm
   obtain ⟨K2,h2⟩:=specMade_ev hlc hW hWy
   have h3:=implMade_eq hW hWy
   obtain ⟨K4,h4⟩:=eqS_of hlc (fun b hb=>eq_ev (hW b hb))
   obtain ⟨K6,h6⟩:=eq_ev hWy
   simp only [conv_f0,conv_f1,conv_f2] at h2 h3 h6
   refine ⟨K0 + K1 + K2 + K4 + K5 + K6 + K9,fun k hk=>?_⟩
   simp only [laws_FnExactSealMade.f,h0 k (by omega),h9 k (by omega),h1 k (by omega),h5 k (by omega),h2 k (by omega),h3,h4 k (by omega),h6 k (by omega),Option.bind_some]
   rw [if_neg (by omega),if_neg (by omega)]
   simp
  ·rw [if_neg hd] at h9
   refine ⟨K0 + K9,fun k hk=>?_⟩
   simp only [laws_FnExactSealMade.f,h0 k (by omega),h9 k (by omega),Option.bind_some]
   rw [if_neg (by omega),if_pos (by omega)]
 ·rw [if_neg hc] at h0
  exact ⟨K0,fun k hk=>by simp only [laws_FnExactSealMade.f,h0 k hk,Option.bind_some];rw [if_pos (by omega)]⟩
theorem exMade_walk (A:Option Addr) (c:Nat) (l:List S33) (ds:Array Value) (y:S33) (W:World) (hc:l.length ≤ c) (hk:Kd.C k33 W A l.length l) (hg:l.length ≤ maxLen∧∀ a ∈ l,Good33 a) (hk2:k33.K W y ds.toList) (hg2:Good33 y) :
  Calls Tryd.prog 8 #[.slice A l.length c,.agg ds] W fun e w'=>e = .returned (.bool true)∧Below W.heap.size W w':=by
 obtain ⟨A3,c3,hds,l3,g3⟩:=k33_open hk2
 obtain rfl:ds = #[.int .i64 y.f0,.int .i64 y.f1,.slice A3 y.f2.length c3]:=by
  apply Array.toList_inj.1
  simpa using hds
 obtain ⟨k,h⟩:=(exMade_pure hg.1 hg.2 hg2).rounds
 exact laws_FnExactSealMade.calls k A c l y.f0 y.f1 A3 c3 y.f2 true W hk hc g3 l3 h
end Go.Proofs.YtbcjpdahdecehaaDoor.P
