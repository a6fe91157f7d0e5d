/- The steps that the program makes lie apart at every depth. No condition. -/
import Derived.Test.YtnkgcjdlfenepaaP0
import Derived.Test.YtnkgcjdlfenepaaP1
import Derived.Test.YtnkgcjdlfenepaaP2
import Derived.Test.YtnkgcjdlfenepaaDTick
import Derived.Test.YtnkgcjdlfenepaaDCopy
namespace Go.Proofs.Ytnkgcjdlfenepaa.P
open Go.RowKit Go.Proofs.YtnkgcjdlfenepaaW.PrintWords Go.Proofs.YtnkgcjdlfenepaaW.PrintLast Go.Proofs.YtnkgcjdlfenepaaW.PrintMore
attribute [local go_sem] max2_int min2_int max_two min_two max_three min_three max_four min_four
set_option linter.unusedVariables false
set_option linter.unusedSimpArgs false
def TickRow (w:World) (base:Nat) (A:Option Addr) (n cap:Nat) (xs:List S44) (i:Nat):Prop :=
 (xs = []∧Kd.S q44 44 w base (fun k=>base ≤ k) (.slice A n cap) xs) ∨ ∃ g B,A = some ⟨g,0,none⟩∧Half w base g n cap xs i B
theorem TickRow_start {w:World} {base n cap:Nat} {A:Option Addr} {ok:Nat → Prop} {xs:List S44} (h:Kd.N k44 44 w base ok (.slice A n cap) xs):TickRow w base A n cap xs 0:=by
 rcases Nat.eq_zero_or_pos xs.length with hz | hp
 ·have e:=List.eq_nil_of_length_eq_zero hz
  subst e
  obtain ⟨h0,rows,hl,⟨_,inner,ho,hr⟩,_⟩:=h
  have er:=List.eq_nil_of_length_eq_zero hl
  subst er
  exact .inl ⟨rfl,fun _=>0,fun k hk=>own_base ho k hk,inner,ho,hr.1,fun j p hj=>by cases hj⟩
 ·obtain ⟨g,cap',e,_⟩:=Kd.N_form h hp
  injection e with e1 e2 e3
  subst e1
  exact .inr ⟨g,_,rfl,Half_start h⟩
theorem TickRow_done {w:World} {base n cap:Nat} {A:Option Addr} {xs:List S44} (h:TickRow w base A n cap xs xs.length):Kd.S q44 44 w base (fun k=>base ≤ k) (.slice A n cap) xs:=by
 rcases h with ⟨_,h⟩ | ⟨g,B,rfl,h⟩
 ·exact h
 ·exact Half_done h
set_option maxHeartbeats 8000000 in
set_option maxRecDepth 100000 in
theorem ClockSteps_deep (k:Nat) (a0_0 a0_1:Int) (P0_2_:Nat → Prop) (A0_2:Option Addr) (c0_2:Nat) (l0_2:List S29) (T:List S44) (w:World) (hs0_2:Kd.V k29 29 w w.heap.size (fun k_=>P0_2_ k_) (.slice A0_2 l0_2.length c0_2) l0_2)
  (h1:impl_ClockOk.f k a0_0 a0_1 l0_2 = some true) (h2:impl_ticksOf.f k a0_0 a0_1 l0_2 = some T) (h3:∀ t,t ∈ T → impl_copyClock.f k t.f1.f0 t.f1.f1 t.f1.f2 = some (t.f1.f0,t.f1.f1,t.f1.f2)) :
  Calls Try.prog 19 #[.agg #[.int .i64 a0_0,.int .i64 a0_1,.slice A0_2 l0_2.length c0_2]] w fun e w'=>∃ v0_:Value,e = .returned (.tuple #[v0_,.bool true])∧Kd.S q44 44 w' w.heap.size (fun k_=>w.heap.size ≤ k_) v0_ T∧Below w.heap.size w w':=by
 have hu29:=Try.underlying29
 have HO0_2:=aQ (show Kd.V k29 29 w w.heap.size (fun k_=>(P0_2_ k_ ∨ w.heap.size ≤ k_)) (.slice A0_2 l0_2.length c0_2) l0_2 from Kd.V_mono hs0_2 (fun k_ hk=>.inl hk))
 have HB:=aQ (Below.refl w.heap.size w)
 have A2:=aQ h1
 have A4:=aQ h2
 have A5:=aQ h3
 clear h1 h2 h3 hs0_2
 go_enter Try.func19,Try.ntmps19
 go_wp2_with (first | ((with_reducible refine gate_dst (N:=1) rfl ?_);refine box1 (N:=1) (cs:=#[.int .i64 a0_0,.int .i64 a0_1,.slice A0_2 l0_2.length c0_2]) (t:=29) ?_;intro gb391 hg w5 hbox hb;replace HO0_2:=aQ (Kd.V_below (Kd.V_elderB (nV HO0_2.out) gb391 (Nat.le_of_eq hg.symm)) hb);have BK391:=aQ (hbox);have GW391:=aQ (gB:w.heap.size ≤ gb391);have GE391:=GW391;replace HB:=aQ (below_step bB hb);clear hb hbox hg;obtain ⟨hcz6_0,hcz6_1,hcz6_2,hfz6_0,hfz6_1,hfz6_2⟩:=cz3 BK391.out) | ((with_reducible refine gate_callee (f:=16) rfl ?_);refine goesL_ (some 7) rfl rfl Try.func16 (by kernel_rfl) rfl #[.agg #[.int .i64 a0_0,.int .i64 a0_1,.slice A0_2 l0_2.length c0_2]] rfl mP ?_;(with_reducible refine (impl_ClockOk.calls k a0_0 a0_1 _ _ l0_2 true _ ?side1 ?side2 A2.out).mono ?_);(case side1=>repeat (first | exact (Kd.V_reads' HO0_2.out).2.2 | (with_reducible refine Kd.C_alloc ?_ _) | (with_reducible refine Kd.C_drewN ?_ _) | (with_reducible refine Kd.C_drew ?_)));(case side2=>exact (Kd.V_reads' HO0_2.out).2.1);rintro e w7 ⟨rfl,hb⟩;refine ⟨_,rfl,?_⟩;replace HO0_2:=aQ (Kd.V_below (nV HO0_2.out) hb);replace BK391:=aQ (blk_below (nB BK391.out) hb);replace HB:=aQ (below_step bB hb);(try clear hb);obtain ⟨hcz8_0,hcz8_1,hcz8_2,hfz8_0,hfz8_1,hfz8_2⟩:=cz3 BK391.out) | ((with_reducible refine gate_callee (f:=47) rfl ?_);refine goesL_ (some 10) rfl rfl Try.func47 (by kernel_rfl) rfl #[.agg #[.int .i64 a0_0,.int .i64 a0_1,.slice A0_2 l0_2.length c0_2]] rfl mP ?_;(with_reducible refine (impl_ticksOf.calls k a0_0 a0_1 (fun k_=>((P0_2_ k_ ∨ w.heap.size ≤ k_)∧k_ ≠ gb391)) _ _ l0_2 T _ ?side1 A4.out).mono ?_);(case side1=>exact HO0_2.out);rintro e w9 ⟨v394,rfl,ho0,hb⟩;refine ⟨_,rfl,?_⟩;have HO395:=aQ (Kd.N_lower ho0 (below_size bB));replace HB:=aQ (below_step bB hb);clear hb ho0 hcz6_0 hcz6_1 hcz6_2 hfz6_0 hfz6_1 hfz6_2 hcz8_0 hcz8_1 hcz8_2 hfz8_0 hfz8_1 hfz8_2;obtain ⟨Ao10,co10,eo10⟩:=Kd.N_slice HO395.out;subst eo10;have HT0:=aQ (TickRow_start HO395.out);have HM0:=aQ (Kd.N_reads' HO395.out).2.2.2.1))
 go_loopw [13] (fun v13 w'=>∃ (i:Nat),i ≤ T.length∧v13 = .int .i64 (i:Int)∧Aside0 (TickRow w' w.heap.size Ao10 T.length co10 T i)∧Aside0 (Below w.heap.size w w')) (fun v13 _=>T.length - (intOf v13).toNat)
 case atStart=>exact ⟨0,Nat.zero_le _,rfl,HT0,HB⟩
 case round =>
  clear HT0 HO395 HB
  obtain ⟨i,hi,rfl,HT,HB⟩:=hrel
  have hm:=HM0.out
  by_cases hlt:i < T.length
  ·have hd:decide (i < T.length) = true:=decide_eq_true hlt
   rcases HT.out with ⟨e,_⟩ | ⟨g,B,eA,hH⟩
   ·exact absurd hlt (by rw [e];simp)
   subst eA
   obtain ⟨x,hx⟩:∃ x,x = T[i]:=⟨_,rfl⟩
   obtain ⟨_,A,c3,hx0,hx1,hx2,hx3,hfz,hle,hC⟩:=Half_get hH hlt
   rw [← hx] at hx0 hx1 hx2 hx3 hle hC
   have hf1:=hfz 1
   have hf2:=hfz 2
   have hf3:=hfz 3
   have A6:=aQ (A5.out x (by rw [hx];exact List.getElem_mem hlt))
   have HC:=aQ hC
   have HL:=aQ hle
   have HH:=aQ hH
   have HX:=aQ hx
   clear hx hC hle hH hfz HT
   go_wp2_with (first
    | (go_at_call 48;(with_reducible refine (copyClock_deep k x.f1.f0 x.f1.f1 _ _ x.f1.f2 x.f1.f0 x.f1.f1 x.f1.f2 _ ?side1 ?side2 A6.out).mono ?_);(case side1=>exact HC.out);(case side2=>exact HL.out);rintro e w8 ⟨v8,rfl,ho8,hb⟩;obtain ⟨A8,c8,rfl⟩:=Kd.S_slice ho8;have HS8:=aQ (Kd.S_lower (Kd.S_mono (Kd.S_bound ho8) (fun _ hk=>hk.2.1)) (below_size HB.out));have hst:=Half_step HH.out hlt hb (v:=.slice A8 x.f1.f2.length c8) (by rw [← HX.out];exact HS8.out);rw [← HX.out] at hst;have HST:=aQ hst;have hg8:=Half_get (Half_below HH.out hb) hlt;rw [← HX.out] at hg8;obtain ⟨_,A9,c9,hy0,hy1,hy2,hy3,hfy,_,_⟩:=hg8;have hfy1:=hfy 1;have hfy2:=hfy 2;have hfy3:=hfy 3;have HB8:=aQ (below_step HB.out hb);clear hx0 hx1 hx2 hx3 hf1 hf2 hf3 hb ho8 hst hfy)
    | ((with_reducible refine gate_store (t:=29) (p:=25) rfl ?_);refine store_event (t:=29) (p:=25) (v:=?vo1) (w1:=(((w8.setCell ⟨g,i * 4 + 1,none⟩ (.int .i64 x.f1.f0)).setCell ⟨g,i * 4 + 2,none⟩ (.int .i64 x.f1.f1)).setCell ⟨g,i * 4 + 3,none⟩ (.slice A8 x.f1.f2.length c8))) ?hg ?ho ?hn ?hr ?_;(case ho=>rfl);(case hg=>rfl);(case hn=>rfl);(case hr=>first | (go_simp;done) | (go_simp;rfl));intro w9 hw;have HW9:=aQ hw;clear hw hy0 hy1 hy2 hy3 hfy1 hfy2 hfy3))
   have HT9:=aQ (show TickRow w9 w.heap.size (some ⟨g,0,none⟩) T.length co10 T (i + 1) from .inr ⟨g,HST.out.1.choose,rfl,by rw [HW9.out];exact HST.out.1.choose_spec⟩)
   have HB9:=aQ (show Below w.heap.size w w9 from by rw [HW9.out];exact below_set (below_set (below_set HB8.out HH.out.1) HH.out.1) HH.out.1)
   clear hd hm
   go_roundw
   case rel=>exact ⟨i + 1,by omega,by go_num,HT9,HB9⟩
   case measure=>simp [intOf];omega
  ·have E:=aQ (show i = T.length by omega)
   have hd:decide (i < T.length) = false:=decide_eq_false hlt
   clear hm
   go_wp2
   go_ret2
   obtain rfl:=E.out
   exact ⟨_,rfl,TickRow_done HT.out,HB.out⟩
end Go.Proofs.Ytnkgcjdlfenepaa.P
