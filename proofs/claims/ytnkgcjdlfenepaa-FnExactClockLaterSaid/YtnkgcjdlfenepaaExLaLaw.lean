/- ClockLater of the program answers as the reference's, in memory of its own, whatever the argument: the law's facts. No condition. -/
import Derived.Test.YtnkgcjdlfenepaaP0
import Derived.Test.YtnkgcjdlfenepaaP3
import Derived.Test.YtnkgcjdlfenepaaExLa
import Derived.Test.YtnkgcjdlfenepaaDNeg
import Derived.Test.YtnkgcjdlfenepaaDHeld
import Derived.Test.YtnkgcjdlfenepaaDObj2
import Derived.Test.YtnkgcjdlfenepaaClkSp
import Derived.Test.YtnkgcjdlfenepaaClkLat
namespace Go.Proofs.Ytnkgcjdlfenepaa.P
open Go.RowKit Go.Proofs.YtnkgcjdlfenepaaW.PrintWords Go.Proofs.YtnkgcjdlfenepaaW.PrintLast
set_option linter.unusedVariables false
mutual
theorem nodes_conv:∀ x:S24,x.conv.nodes = 1 + x.cnt
 | ⟨a,b,l⟩=>by
  have:=nodes_convL l
  simp only [S24.conv,S29.nodes,S24.cnt]
  omega
theorem nodes_convL:∀ l:List S24,nodesL (convL l) = l.length + subL l
 | []=>by simp [convL,nodesL,subL]
 | x :: l=>by
  have h1:=nodes_conv x
  have h2:=nodes_convL l
  simp only [convL,nodesL,subL,List.length_cons]
  omega
end
theorem heldOne_ev {x:S29} (h:nodesL x.f2 ≤ 1048576):Ev (fun k=>laws_heldClock.f k x.f0 x.f1 (mkL x.f2 1).2 1) (mkL x.f2 1).1:=by
 have hp:0 ≤ (mkL x.f2 1).1:=by rw [mkL_num _ _ (by omega) (by omega)];omega
 refine Ev.cb (held_ev (l:=x.f2) (k:=1) (by omega) (by omega)) (fun k hk=>?_) (Ev.now _)
 simp only [laws_heldClock.f]
 have hk':laws_heldClockS.f k (mkL x.f2 1).2 1 = some (mkL x.f2 1).1:=hk
 rw [hk',Option.bind_some,if_neg (by omega)]
theorem res_ok {y:S29} (hw:W29 y) (n:Int):W29 (laterOf y n).1∧(laterOf y n).1.nodes ≤ 16:=by
 unfold laterOf
 split
 ·rename_i c
  obtain ⟨ht,hn⟩:=clockOk_t hw c.1
  have:=lat_ok n.toNat ht hn
  exact ⟨this.1.w,this.2⟩
 ·exact ⟨OkT.nil.w,by simp [S29.nodes,nodesL]⟩
theorem exLa_walk (cs:Array Value) (x:S24) (n:Int) (W:World) (hk:k24.K W x cs.toList) (hg:Good24 x) {Q:Prop} (_:Q) :
  Calls Try.prog 11 #[.agg cs,.int .i64 n] W fun e w'=>e = .returned (.bool true)∧Below W.heap.size W w':=by
 obtain ⟨A2,c2,hcs,l2,g2⟩:=k24_open hk
 obtain rfl:cs = #[.int .i64 x.f0,.int .i64 x.f1,.slice A2 x.f2.length c2]:=by
  apply Array.toList_inj.1
  simpa using hcs
 obtain ⟨K0,h0⟩:=sz_ev hg 1048576 (by omega) (by omega)
 by_cases hc:(x.cnt:Int) ≤ 1048576
 ·rw [if_pos hc] at h0
  have hcn:x.cnt ≤ 1048576:=by omega
  have hW:=conv_W hg hcn
  obtain ⟨K1,h1⟩:=to_ev hg hcn
  obtain ⟨K2,h2⟩:=specLater_ev hW n
  have h3:∀ (A:Option Addr) (c:Nat) (w:World),Kd.C k29 w A x.conv.f2.length x.conv.f2 → x.conv.f2.length ≤ c → _:=fun A c w hC hl=>clater_all hW n A c w hC hl
  obtain ⟨K4,h4⟩:=eq_ev hW
  obtain ⟨hRW,hRn⟩:=res_ok hW n
  obtain ⟨R,hR⟩:∃ R,R = (laterOf x.conv n):=⟨_,rfl⟩
  rw [← hR] at hRW hRn
  obtain ⟨K5,h5⟩:=eq_ev hRW
  have hRl:nodesL R.1.f2 ≤ 16:=by
   have e:R.1.nodes = 1 + nodesL R.1.f2:=by cases R.1;simp [S29.nodes]
   omega
  obtain ⟨K6,h6⟩:=heldOne_ev (x:=R.1) (by omega)
  have hx:nodesL (convL x.f2) ≤ 1048576:=by
   have:=nodes_convL x.f2
   have e:x.cnt = x.f2.length + subL x.f2:=by cases x;simp [S24.cnt]
   omega
  have n1:(mkL (convL x.f2) 1).1 = 1 + 2 * nodesL (convL x.f2):=mkL_num _ _ (by omega) (by omega)
  have n2:(mkL R.1.f2 1).1 = 1 + 2 * nodesL R.1.f2:=mkL_num _ _ (by omega) (by omega)
  rw [← hR] at h2 h3
  simp only [conv_f0,conv_f1,conv_f2] at h2 h3 h4
  obtain ⟨k,hk⟩:∃ k,k = K0 + K1 + K2 + K4 + K5 + K6:=⟨_,rfl⟩
  exact exCLater_main k x.f0 x.f1 A2 c2 x.f2 n _ (convL x.f2) W g2 l2 (h0 k (by omega)) (decide_eq_false (by omega)) (h1 k (by omega)) (h4 k (by omega)) (decide_eq_false (by omega)) R (h2 k (by omega)) h3 (h5 k (by omega)) (h6 k (by omega)) (decide_eq_false (by omega))
 ·rw [if_neg hc] at h0
  exact exCLater_r K0 x.f0 x.f1 A2 c2 x.f2 n _ W g2 l2 (h0 K0 (Nat.le_refl _)) (by decide)
end Go.Proofs.Ytnkgcjdlfenepaa.P
