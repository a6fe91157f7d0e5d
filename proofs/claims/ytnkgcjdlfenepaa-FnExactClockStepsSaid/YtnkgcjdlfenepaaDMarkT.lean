/- What writes marks into a term with time given by value, and into a row of steps. No condition. -/
import Derived.Test.YtnkgcjdlfenepaaDMark
import Derived.Test.YtnkgcjdlfenepaaDTick
namespace Go.Proofs.Ytnkgcjdlfenepaa.P
open Go.RowKit Go.Proofs.YtnkgcjdlfenepaaW.PrintWords Go.Proofs.YtnkgcjdlfenepaaW.PrintLast Go.Proofs.YtnkgcjdlfenepaaW.PrintMore
attribute [local go_sem] max2_int min2_int max_two min_two max_three min_three max_four min_four
set_option linter.unusedVariables false
set_option linter.unusedSimpArgs false
def w3 (k:Int):Int:=wrap64 (wrap64 (wrap64 (k + 1) + 1) + 1)
def S44.mk1 (x:S44) (k:Int):Int × S44:=((mkL x.f1.f2 (w3 k)).1,⟨k,⟨wrap64 (k + 1),wrap64 (wrap64 (k + 1) + 1),(mkL x.f1.f2 (w3 k)).2⟩⟩)
def mkT:List S44 → Int → Int × List S44
 | [],k=>(k,[])
 | x :: l,k=>((mkT l (x.mk1 k).1).1,(x.mk1 k).2 :: (mkT l (x.mk1 k).1).2)
theorem mkT_append:∀ (a b:List S44) (k:Int),mkT (a ++ b) k = ((mkT b (mkT a k).1).1,(mkT a k).2 ++ (mkT b (mkT a k).1).2)
 | [],b,k=>by simp [mkT]
 | x :: a,b,k=>by simp [mkT,mkT_append a b]
theorem mkT_len:∀ (a:List S44) (k:Int),(mkT a k).2.length = a.length
 | [],k=>by simp [mkT]
 | x :: a,k=>by simp [mkT,mkT_len a]
theorem mkT_take {l:List S44} {i:Nat} (h:i < l.length) (k:Int):mkT (l.take (i + 1)) k = (((l[i]).mk1 (mkT (l.take i) k).1).1,(mkT (l.take i) k).2 ++ [((l[i]).mk1 (mkT (l.take i) k).1).2]):=by
 rw [List.take_succ_eq_append_getElem h,mkT_append]
 simp [mkT]
def mkTTo (l:List S44) (a:Int) (i:Nat):List S44:=(mkT (l.take i) a).2 ++ l.drop i
theorem mkTTo_len (l:List S44) (a:Int) {i:Nat} (h:i ≤ l.length):(mkTTo l a i).length = l.length:=by
 simp [mkTTo,mkT_len];omega
theorem mkTTo_at {l:List S44} (a:Int) {i:Nat} (h:i < l.length) (z:S44):(mkTTo l a i).getD i z = l[i]:=by
 have hl:(mkT (l.take i) a).2.length = i:=by rw [mkT_len,List.length_take];omega
 rw [mkTTo,List.getD_eq_getElem?_getD,List.getElem?_append_right (by omega),hl,Nat.sub_self,List.getElem?_drop,Nat.add_zero,List.getElem?_eq_getElem h]
 rfl
theorem mkTTo_succ {l:List S44} (a:Int) {i:Nat} (h:i < l.length):(mkTTo l a i).set i ((l[i]).mk1 (mkT (l.take i) a).1).2 = mkTTo l a (i + 1):=by
 have hl:(mkT (l.take i) a).2.length = i:=by rw [mkT_len,List.length_take];omega
 rw [mkTTo,mkTTo,mkT_take h,List.set_append_right _ _ (by omega),hl,Nat.sub_self,List.drop_eq_getElem_cons h,List.set_cons_zero,List.append_assoc]
 rfl
theorem mkTTo_all (l:List S44) (a:Int):mkTTo l a l.length = (mkT l a).2:=by
 rw [mkTTo,List.take_length,List.drop_length,List.append_nil]
set_option maxHeartbeats 8000000 in
set_option maxRecDepth 100000 in
theorem markClock_deep (P0_:Nat → Prop) (u:Value) (a0 b0:Int) (l0:List S29) (a1:Int) (w0 w:World) (hB:Below w0.heap.size w0 w) (ho:Kd.S q29 29 w w0.heap.size P0_ u l0) :
  Calls Try.prog 27 #[.agg #[.int .i64 a0,.int .i64 b0,u],.int .i64 a1] w fun e w'=>e = .returned (.int .i64 (mkL l0 a1).1)∧Kd.S q29 29 w' w0.heap.size P0_ u (mkL l0 a1).2∧Below w0.heap.size w0 w'∧Kept w w' P0_:=by
 have HO0:=aQ ho
 have HB:=aQ hB
 have hu29:=Try.underlying29
 obtain ⟨Au,cu,rfl⟩:=Kd.S_slice ho
 clear hB ho
 go_enter Try.func27,Try.ntmps27
 go_wp2_with (first
  | ((with_reducible refine gate_dst (N:=2) rfl ?_);refine box1 (N:=2) (cs:=#[.int .i64 a0,.int .i64 b0,.slice Au l0.length cu]) (t:=29) ?_;intro gb hg w5 hbox hb;have BK:=aQ hbox;have HB5:=aQ (below_step HB.out (hb.mono (by have:=HB.out.size;omega)));have HBW:=aQ hb;have HO5:=aQ (Kd.S_below HO0.out hb);clear hb hbox hg;obtain ⟨hcz6_0,hcz6_1,hcz6_2,hfz6_0,hfz6_1,hfz6_2⟩:=cz3 BK.out)
  | (go_at_call 54;(with_reducible refine (markClockS_deep (nodesL l0 + 1) P0_ _ l0 a1 w0 _ (Nat.lt_succ_self _) ?side1 ?side2).mono ?_);(case side1=>exact HB5.out);(case side2=>exact HO5.out);rintro e w8 ⟨rfl,hS8,hB8,hK8⟩;have HS8:=aQ hS8;have HB8:=aQ hB8;have HK8:=aQ (Kept.then_ (Kept.of_below HBW.out P0_) hK8 (fun _ hk=>.inl hk));clear hS8 hB8 hK8))
 go_ret
 exact ⟨rfl,HS8.out,HB8.out,HK8.out⟩
set_option maxHeartbeats 8000000 in
set_option maxRecDepth 100000 in
theorem markTickS_deep (P0_:Nat → Prop) (u:Value) (l0:List S44) (a1:Int) (w0 w:World) (hB:Below w0.heap.size w0 w) (ho:Kd.S q44 44 w w0.heap.size P0_ u l0) :
  Calls Try.prog 28 #[u,.int .i64 a1] w fun e w'=>e = .returned (.int .i64 (mkT l0 a1).1)∧Kd.S q44 44 w' w0.heap.size P0_ u (mkT l0 a1).2∧Below w0.heap.size w0 w'∧Kept w w' P0_:=by
 have HO0:=aQ ho
 have HK:=aQ (Kept.refl w P0_)
 have HB:=aQ hB
 obtain ⟨Au,cu,rfl⟩:=Kd.S_slice ho
 have HM:=aQ (S44_reads HO0.out).2.2.2.1
 clear hB ho
 go_enter Try.func28,Try.ntmps28
 go_wp2
 go_loopw [1,5] (fun v1 v5 w'=>∃ (i:Nat) (K:Int),i ≤ l0.length∧v1 = .int .i64 K∧v5 = .int .i64 (i:Int)∧Aside0 (K = (mkT (l0.take i) a1).1)∧Aside0 (Kd.S q44 44 w' w0.heap.size P0_ (.slice Au l0.length cu) (mkTTo l0 a1 i))∧Aside0 (Kept w w' P0_)∧Aside0 (Below w0.heap.size w0 w')) (fun _ v5 _=>l0.length - (intOf v5).toNat)
 case atStart=>exact ⟨0,a1,Nat.zero_le _,rfl,rfl,⟨by simp [mkT]⟩,by simpa [mkTTo,mkT] using HO0,HK,HB⟩
 case round =>
  obtain ⟨i,K,hi,rfl,rfl,HKe,HO,HK,HB⟩:=hrel
  have hm:=HM.out
  have hlen:=mkTTo_len l0 a1 hi
  by_cases hlt:i < l0.length
  ·obtain ⟨go,cap,eo,gb,gl,cl,HG⟩:=Kd.S_form HO.out (by omega)
   injection eo with ea en ec
   subst ea
   subst ec
   clear en
   obtain ⟨oki,c,hcl,hM,hcc,hfr,hoki,hH⟩:=Kd.S_elem HO.out z44 (i:Int) (by omega) (by omega)
   rw [Int.toNat_natCast,mkTTo_at a1 hlt] at hM
   obtain ⟨x,hx⟩:∃ x,x = l0[i]:=⟨_,rfl⟩
   rw [← hx] at hM
   obtain ⟨ve,rfl,ge⟩:=q44_openM hM
   obtain ⟨Av,cv,rfl⟩:=Kd.S_slice ge
   have hng:∀ k,oki k → k ≠ go:=fun k hk=>(hoki k hk).2
   have hP:P0_ go:=S_ok HO.out
   have hH1:=Kd.H_seg hH (by omega) (by omega) (seg:=[.int .i64 K]) (j:=0) (show 1 ≤ 4 by decide) (by intro q hq;rw [List.mem_singleton.1 hq];rfl)
   have hH2:=Kd.H_seg hH1.1 (by omega) (by omega) (seg:=[.int .i64 (wrap64 (K + 1))]) (j:=1) (show 2 ≤ 4 by decide) (by intro q hq;rw [List.mem_singleton.1 hq];rfl)
   have hH3:=Kd.H_seg hH2.1 (by omega) (by omega) (seg:=[.int .i64 (wrap64 (wrap64 (K + 1) + 1))]) (j:=2) (show 3 ≤ 4 by decide) (by intro q hq;rw [List.mem_singleton.1 hq];rfl)
   have c0:=H_cells hH (by omega) (by omega)
   have c1:=H_cells hH1.1 (by omega) (by omega)
   have c2:=H_cells hH2.1 (by omega) (by omega)
   have c3:=H_cells hH3.1 (by omega) (by omega)
   have hs1:=Kd.S_grown ge hH1.2 (fun k hk he=>hng k hk (by injection he))
   have hs2:=Kd.S_grown hs1 hH2.2 (fun k hk he=>hng k hk (by injection he))
   have hs3:=Kd.S_grown hs2 hH3.2 (fun k hk he=>hng k hk (by injection he))
   have hk1:=Kept.of_grown hH1.2 HK.out (fun k hk=>.inl (by injection hk with hk;exact hk ▸ hP))
   have hk2:=Kept.of_grown hH2.2 hk1 (fun k hk=>.inl (by injection hk with hk;exact hk ▸ hP))
   have hk3:=Kept.of_grown hH3.2 hk2 (fun k hk=>.inl (by injection hk with hk;exact hk ▸ hP))
   have ce:=fun (W:World) (c:List Value) (h:(∀ j u,c[j]? = some u → W.cell? ⟨go,(i:Int).toNat * q44.sz + j,none⟩ = some u)∧∀ j,W.frozen? ⟨go,(i:Int).toNat * q44.sz + j,none⟩ = false) (j:Nat) (u:Value) (hj:c[j]? = some u)=>(show W.cell? ⟨go,i * 4 + j,none⟩ = some u∧W.frozen? ⟨go,i * 4 + j,none⟩ = false from ⟨h.1 j u hj,h.2 j⟩)
   have hx0:wr.cell? ⟨go,i * 4,none⟩ = some (.int .i64 x.f0):=(ce _ _ c0 0 _ rfl).1
   have hf0:wr.frozen? ⟨go,i * 4,none⟩ = false:=(ce _ _ c0 0 _ rfl).2
   have C1:=aQ c1
   have C2:=aQ c2
   have C3:=aQ c3
   have CE:=aQ ce
   have HB3:=aQ (below_set (below_set (below_set HB.out gb (j:=i * 4) (v:=.int .i64 K)) gb (j:=i * 4 + 1) (v:=.int .i64 (wrap64 (K + 1)))) gb (j:=i * 4 + 2) (v:=.int .i64 (wrap64 (wrap64 (K + 1) + 1))))
   have HH3:=aQ hH3.1
   have HS3:=aQ hs3
   have HK3:=aQ hk3
   have HOK:=aQ hoki
   have HX:=aQ hx
   clear hx hcl hM hcc hfr hoki hH hng hP hH1 hH2 hH3 c0 c1 c2 c3 hs1 hs2 hs3 hk1 hk2 hk3 ge gb gl cl HG ce
   have hd:decide (i < l0.length) = true:=decide_eq_true hlt
   go_wp2_with (first
    | ((with_reducible refine gate_store (t:=3) (p:=16) rfl ?_);refine store_event (t:=3) (p:=16) (v:=?vo1) (w1:=wr.setCell ⟨go,i * 4,none⟩ (.int .i64 K)) ?hg ?ho ?hn ?hr ?_;(case ho=>rfl);(case hg=>rfl);(case hn=>rfl);(case hr=>first | (go_simp;done) | (go_simp;rfl));intro w5 hw;have hx1:w5.cell? ⟨go,i * 4 + 1,none⟩ = some (.int .i64 x.f1.f0):=(by rw [hw];exact (CE.out _ _ C1.out 1 _ rfl).1);have hf1:w5.frozen? ⟨go,i * 4 + 1,none⟩ = false:=(by rw [hw];exact (CE.out _ _ C1.out 1 _ rfl).2);have HW5:=aQ hw;clear hw hx0 hf0)
    | ((with_reducible refine gate_store (t:=3) (p:=24) rfl ?_);refine store_event (t:=3) (p:=24) (v:=?vo2) (w1:=w5.setCell ⟨go,i * 4 + 1,none⟩ (.int .i64 (wrap64 (K + 1)))) ?hg ?ho ?hn ?hr ?_;(case ho=>rfl);(case hg=>rfl);(case hn=>rfl);(case hr=>first | (go_simp;done) | (go_simp;rfl));intro w6 hw;have hx2:w6.cell? ⟨go,i * 4 + 2,none⟩ = some (.int .i64 x.f1.f1):=(by rw [hw,HW5.out];exact (CE.out _ _ C2.out 2 _ rfl).1);have hf2:w6.frozen? ⟨go,i * 4 + 2,none⟩ = false:=(by rw [hw,HW5.out];exact (CE.out _ _ C2.out 2 _ rfl).2);have HW6:=aQ hw;clear hw hx1 hf1)
    | ((with_reducible refine gate_store (t:=3) (p:=32) rfl ?_);refine store_event (t:=3) (p:=32) (v:=?vo3) (w1:=w6.setCell ⟨go,i * 4 + 2,none⟩ (.int .i64 (wrap64 (wrap64 (K + 1) + 1)))) ?hg ?ho ?hn ?hr ?_;(case ho=>rfl);(case hg=>rfl);(case hn=>rfl);(case hr=>first | (go_simp;done) | (go_simp;rfl));intro w7 hw;have hx3:w7.cell? ⟨go,i * 4 + 3,none⟩ = some (.slice Av x.f1.f2.length cv):=(by rw [hw,HW6.out,HW5.out];exact (CE.out _ _ C3.out 3 _ rfl).1);have HW7:=aQ hw;clear hw hx2 hf2)
    | (go_at_call 54;(with_reducible refine (markClockS_deep (nodesL x.f1.f2 + 1) oki _ x.f1.f2 _ w0 _ (Nat.lt_succ_self _) ?side1 ?side2).mono ?_);(case side1=>rw [HW7.out,HW6.out,HW5.out];exact HB3.out);(case side2=>rw [HW7.out,HW6.out,HW5.out];exact HS3.out);rintro e w8 ⟨rfl,hS8,hB8,hK8⟩;have HS8:=aQ hS8;have HB8:=aQ hB8;have HK8:=aQ (show Kept _ w8 oki from hK8);clear hS8 hB8 hK8))
   have HH6:=aQ (show Kd.H q44 44 w7 w0.heap.size P0_ (.slice (some ⟨go,0,none⟩) l0.length cu) (mkTTo l0 a1 i) (i:Int) oki [.int .i64 K,.int .i64 (wrap64 (K + 1)),.int .i64 (wrap64 (wrap64 (K + 1) + 1)),.slice Av x.f1.f2.length cv] from by rw [HW7.out,HW6.out,HW5.out];exact HH3.out)
   have HK6:=aQ (show Kept w w7 P0_ from by rw [HW7.out,HW6.out,HW5.out];exact HK3.out)
   have hS:=Kd.H_back (Kd.H_kept HH6.out HK8.out (fun k hk hn=>hn)) (q44_mkM w8 w0.heap.size oki (x.mk1 K).2 HS8.out) (fun _ hk=>hk)
   rw [Int.toNat_natCast,HX.out,HKe.out,mkTTo_succ a1 hlt] at hS
   have hK:=Kept.then_ HK6.out HK8.out (fun k hk=>.inl (HOK.out k hk).1)
   have et:(mkT (l0.take (i + 1)) a1).1 = (mkL x.f1.f2 (wrap64 (wrap64 (wrap64 (K + 1) + 1) + 1))).1:=by rw [mkT_take hlt,← HKe.out,← HX.out];rfl
   have HS9:=aQ hS
   have HK9:=aQ hK
   have ET:=aQ et.symm
   clear hS hK et HH6 HK6 hd
   go_roundw
   case rel=>exact ⟨i + 1,_,by omega,rfl,by go_num,ET,HS9,HK9,HB8⟩
   case measure=>simp [intOf];omega
  ·have E:=aQ (show i = l0.length by omega)
   have hd:decide (i < l0.length) = false:=decide_eq_false hlt
   clear hm hlen
   go_wp2
   go_ret
   obtain rfl:=E.out
   have he:=HKe.out
   rw [List.take_length] at he
   have hs:=HO.out
   rw [mkTTo_all] at hs
   exact ⟨by rw [← he];rfl,hs,HB.out,HK.out⟩
end Go.Proofs.Ytnkgcjdlfenepaa.P
