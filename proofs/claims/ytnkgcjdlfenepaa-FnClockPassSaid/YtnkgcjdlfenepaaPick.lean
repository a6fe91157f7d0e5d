/- What the reference's drawer picks: a number below the bound, and one step on. No condition. -/
import Derived.Test.YtnkgcjdlfenepaaP0
import Derived.Test.YtnkgcjdlfenepaaP2
import Derived.Test.YtnkgcjdlfenepaaTree
namespace Go.Proofs.Ytnkgcjdlfenepaa.P
open Go.RowKit Go.Proofs.YtnkgcjdlfenepaaW.PrintWords Go.Proofs.YtnkgcjdlfenepaaW.PrintLast
set_option linter.unusedVariables false
set_option linter.unusedSimpArgs false
theorem xor_nonneg (X:Nat) (h:X < 4611686018427387904):0 ≤ bits .xor .i64 (X:Int) (Int.tdiv (X:Int) 64):=by
 have e:Int.tdiv (X:Int) 64 = ((X / 64:Nat):Int):=by rw [Int.tdiv_eq_ediv_of_nonneg (by omega)];rfl
 rw [e]
 have hx:X ^^^ (X / 64) < 2 ^ 62:=Nat.xor_lt_two_pow (by omega) (by omega)
 have h1:(BitVec.ofInt 64 (X:Int)).toNat = X:=by
  rw [BitVec.ofInt_natCast,BitVec.toNat_ofNat];exact Nat.mod_eq_of_lt (by omega)
 have h2:(BitVec.ofInt 64 ((X / 64:Nat):Int)).toNat = X / 64:=by
  rw [BitVec.ofInt_natCast,BitVec.toNat_ofNat];exact Nat.mod_eq_of_lt (by omega)
 show 0 ≤ IntKind.i64.wrap ((BitVec.ofInt 64 (X:Int) ^^^ BitVec.ofInt 64 ((X / 64:Nat):Int)).toNat:Int)
 rw [BitVec.toNat_xor,h1,h2]
 have e3:IntKind.i64.wrap ((X ^^^ (X / 64):Nat):Int) = ((X ^^^ (X / 64):Nat):Int):=by
  have:=wrap_id (x:=((X ^^^ (X / 64):Nat):Int)) (by omega) (by omega)
  rwa [← i64_w] at this
 rw [e3]
 omega
structure Src (s:List Int):Prop where
 byte:∀ x,x ∈ s → 0 ≤ x∧x < 256
 len:s.length ≤ 2000
theorem Src.at {s:List Int} (h:Src s) (i:Int):0 ≤ rd s i∧rd s i < 256:=by
 unfold rd
 rw [List.getD_eq_getElem?_getD]
 cases hc:s[i.toNat]? with
 | none=>simp
 | some v=>exact h.byte v (List.mem_of_getElem? hc)
theorem pick_ev {s:List Int} (hs:Src s) {p n:Int} (hp:0 ≤ p) (hp2:p ≤ 1000000000000) (hn:1 ≤ n):∃ v,0 ≤ v∧v < n∧Ev (fun k=>spec_l6Rd_pick.f k s p n) (v,p + 1):=by
 have e0:wrap64 (p + 1) = p + 1:=wrap_id (by omega) (by omega)
 have e1:wrap64 (p + 1 - 1) = p:=by rw [wrap_id (by omega) (by omega)];omega
 by_cases h0:s.length = 0
 ·refine ⟨0,by omega,by omega,Ev.cb (Ev.now ()) (fun k _=>?_) (f:=fun k=>spec_l6Rd_pick.j0 k n true s (p + 1)) (Ev.step (fun k=>?_) (Ev.now (0,p + 1)))⟩
  ·simp only [spec_l6Rd_pick.f]
   rw [if_neg (by omega),e0,show ((s.length:Int) == 0) = true by simp [h0]]
  ·simp only [spec_l6Rd_pick.j0]
   rw [if_pos (by trivial)]
 ·have hf:∀ r,Ev (fun k=>spec_l6Rd_pick.j0 k n false s (p + 1)) r → Ev (fun k=>spec_l6Rd_pick.f k s p n) r:=fun r h=>Ev.cb (Ev.now ()) (fun k _=>by
   simp only [spec_l6Rd_pick.f]
   rw [if_neg (by omega),e0,show ((s.length:Int) == 0) = false by simp [h0]]) h
  by_cases h1:p < (s.length:Int)
  ·have hb:=hs.at p
   refine ⟨Int.tmod (rd s p) n,Int.tmod_nonneg _ hb.1,Int.tmod_lt_of_pos _ (by omega),hf _ (Ev.step (f:=fun _=>some (Int.tmod (rd s p) n,p + 1)) (fun k=>?_) (Ev.now _))⟩
   simp only [spec_l6Rd_pick.j0,e1]
   rw [if_neg (by simp),if_pos h1,if_pos hp,if_neg (by omega),wrap_id (x:=rd s p) (by omega) (by omega)]
  ·have hl:(0:Int) < (s.length:Int):=by omega
   have hlen:=hs.len
   have m1:=Int.tmod_nonneg (s.length:Int) hp
   have m2:=Int.tmod_lt_of_pos p hl
   have hk:0 ≤ p * 7 + 3:=by omega
   have m3:=Int.tmod_nonneg (s.length:Int) hk
   have m4:=Int.tmod_lt_of_pos (p * 7 + 3) hl
   have ba:=hs.at (Int.tmod p (s.length:Int))
   have bb:=hs.at (Int.tmod (p * 7 + 3) (s.length:Int))
   have d1:0 ≤ Int.tdiv p (s.length:Int):=Int.tdiv_nonneg hp (by omega)
   have d2:Int.tdiv p (s.length:Int) ≤ p:=by
    rw [Int.tdiv_eq_ediv_of_nonneg hp]
    exact Int.ediv_le_self _ hp
   generalize ha:rd s (Int.tmod p (s.length:Int)) = a at ba
   generalize hb:rd s (Int.tmod (p * 7 + 3) (s.length:Int)) = b at bb
   generalize hd:Int.tdiv p (s.length:Int) = d at d1 d2
   obtain ⟨X,hX⟩:∃ X:Nat,a * 131 + b * 1117 + p * 29 + d * 53 = (X:Int):=⟨(a * 131 + b * 1117 + p * 29 + d * 53).toNat,by omega⟩
   have hXl:X < 4611686018427387904:=by omega
   have hx:=xor_nonneg X hXl
   have e2:wrap64 (p * 7) = p * 7:=wrap_id (by omega) (by omega)
   have e3:wrap64 (p * 7 + 3) = p * 7 + 3:=wrap_id (by omega) (by omega)
   have e4:wrap64 a = a:=wrap_id (by omega) (by omega)
   have e5:wrap64 b = b:=wrap_id (by omega) (by omega)
   have e6:wrap64 (a * 131) = a * 131:=wrap_id (by omega) (by omega)
   have e7:wrap64 (b * 1117) = b * 1117:=wrap_id (by omega) (by omega)
   have e8:wrap64 (a * 131 + b * 1117) = a * 131 + b * 1117:=wrap_id (by omega) (by omega)
   have e9:wrap64 (p * 29) = p * 29:=wrap_id (by omega) (by omega)
   have e10:wrap64 (a * 131 + b * 1117 + p * 29) = a * 131 + b * 1117 + p * 29:=wrap_id (by omega) (by omega)
   have e11:wrap64 d = d:=wrap_id (by omega) (by omega)
   have e12:wrap64 (d * 53) = d * 53:=wrap_id (by omega) (by omega)
   have e13:wrap64 (X:Int) = X:=wrap_id (by omega) (by omega)
   have t1:0 ≤ Int.tdiv (X:Int) 64:=Int.tdiv_nonneg (by omega) (by omega)
   have t2:Int.tdiv (X:Int) 64 ≤ X:=by rw [Int.tdiv_eq_ediv_of_nonneg (by omega)];omega
   have e14:wrap64 (Int.tdiv (X:Int) 64) = Int.tdiv (X:Int) 64:=wrap_id (by omega) (by omega)
   refine ⟨Int.tmod (bits .xor .i64 (X:Int) (Int.tdiv (X:Int) 64)) n,Int.tmod_nonneg _ hx,Int.tmod_lt_of_pos _ (by omega),hf _ (Ev.step (f:=fun _=>some (Int.tmod (bits .xor .i64 (X:Int) (Int.tdiv (X:Int) 64)) n,p + 1)) (fun k=>?_) (Ev.now _))⟩
   simp only [spec_l6Rd_pick.j0,e1,e2,e3,ha,hb,hd,e4,e5,e6,e7,e8,e9,e10,e11,e12,hX,e13,e14]
   rw [if_neg (by simp),if_neg h1,if_neg (by omega),if_pos m1,if_pos m2,if_pos m3,if_pos m4,if_neg (by omega)]
end Go.Proofs.Ytnkgcjdlfenepaa.P
