/- What writes marks into terms with time: which blocks it turns, what stands there then. No condition. -/
import Derived.Test.YtnkgcjdlfenepaaDTree
import Derived.Test.YtnkgcjdlfenepaaOkPure
import Derived.Test.YtnkgcjdlfenepaaWKept
namespace Go.Proofs.Ytnkgcjdlfenepaa.P
open Go.RowKit Go.Proofs.YtnkgcjdlfenepaaW.PrintWords Go.Proofs.YtnkgcjdlfenepaaW.PrintLast Go.Proofs.YtnkgcjdlfenepaaW.PrintMore
attribute [local go_sem] max2_int min2_int max_two min_two max_three min_three max_four min_four
set_option linter.unusedVariables false
set_option linter.unusedSimpArgs false
mutual
def S29.mk1:S29 → Int → Int × S29
 | ⟨_,_,l⟩,k=>((mkL l (wrap64 (wrap64 (k + 1) + 1))).1,⟨k,wrap64 (k + 1),(mkL l (wrap64 (wrap64 (k + 1) + 1))).2⟩)
def mkL:List S29 → Int → Int × List S29
 | [],k=>(k,[])
 | x :: l,k=>((mkL l (x.mk1 k).1).1,(x.mk1 k).2 :: (mkL l (x.mk1 k).1).2)
end
theorem mkL_append:∀ (a b:List S29) (k:Int),mkL (a ++ b) k = ((mkL b (mkL a k).1).1,(mkL a k).2 ++ (mkL b (mkL a k).1).2)
 | [],b,k=>by simp [mkL]
 | x :: a,b,k=>by simp [mkL,mkL_append a b]
theorem mkL_len:∀ (a:List S29) (k:Int),(mkL a k).2.length = a.length
 | [],k=>by simp [mkL]
 | x :: a,k=>by simp [mkL,mkL_len a]
theorem mk1_eq (x:S29) (k:Int):x.mk1 k = ((mkL x.f2 (wrap64 (wrap64 (k + 1) + 1))).1,⟨k,wrap64 (k + 1),(mkL x.f2 (wrap64 (wrap64 (k + 1) + 1))).2⟩):=by cases x;simp [S29.mk1]
theorem mkL_take {l:List S29} {i:Nat} (h:i < l.length) (k:Int):mkL (l.take (i + 1)) k = (((l[i]).mk1 (mkL (l.take i) k).1).1,(mkL (l.take i) k).2 ++ [((l[i]).mk1 (mkL (l.take i) k).1).2]):=by
 rw [List.take_succ_eq_append_getElem h,mkL_append]
 simp [mkL]
theorem nodesL_app:∀ a b:List S29,nodesL (a ++ b) = nodesL a + nodesL b
 | [],b=>by simp [nodesL]
 | x :: a,b=>by simp [nodesL,nodesL_app a b];omega
def mkTo (l:List S29) (a:Int) (i:Nat):List S29:=(mkL (l.take i) a).2 ++ l.drop i
theorem mkTo_len (l:List S29) (a:Int) {i:Nat} (h:i ≤ l.length):(mkTo l a i).length = l.length:=by
 simp [mkTo,mkL_len];omega
theorem mkTo_at {l:List S29} (a:Int) {i:Nat} (h:i < l.length) (z:S29):(mkTo l a i).getD i z = l[i]:=by
 have hl:(mkL (l.take i) a).2.length = i:=by rw [mkL_len,List.length_take];omega
 rw [mkTo,List.getD_eq_getElem?_getD,List.getElem?_append_right (by omega),hl,Nat.sub_self,List.getElem?_drop,Nat.add_zero,List.getElem?_eq_getElem h]
 rfl
theorem mkTo_succ {l:List S29} (a:Int) {i:Nat} (h:i < l.length):(mkTo l a i).set i ((l[i]).mk1 (mkL (l.take i) a).1).2 = mkTo l a (i + 1):=by
 have hl:(mkL (l.take i) a).2.length = i:=by rw [mkL_len,List.length_take];omega
 rw [mkTo,mkTo,mkL_take h,List.set_append_right _ _ (by omega),hl,Nat.sub_self,List.drop_eq_getElem_cons h,List.set_cons_zero,List.append_assoc]
 rfl
theorem mkTo_all (l:List S29) (a:Int):mkTo l a l.length = (mkL l a).2:=by
 rw [mkTo,List.take_length,List.drop_length,List.append_nil]
set_option maxHeartbeats 8000000 in
set_option maxRecDepth 100000 in
theorem markClockS_deep:∀ (N:Nat) (P0_:Nat → Prop) (u:Value) (l0:List S29) (a1:Int) (w0 w:World) (hN:nodesL l0 < N) (hB:Below w0.heap.size w0 w) (ho:Kd.S q29 29 w w0.heap.size P0_ u l0),
  Calls Try.prog 54 #[u,.int .i64 a1] w fun e w'=>e = .returned (.int .i64 (mkL l0 a1).1)∧Kd.S q29 29 w' w0.heap.size P0_ u (mkL l0 a1).2∧Below w0.heap.size w0 w'∧Kept w w' P0_:=by
 intro N
 induction N with
 | zero=>intro P0_ u l0 a1 w0 w hN;omega
 | succ N ih =>
 intro P0_ u l0 a1 w0 w hN hB ho
 have HO0:=aQ ho
 have HK:=aQ (Kept.refl w P0_)
 have HB:=aQ hB
 have HN:=aQ hN
 obtain ⟨Au,cu,rfl⟩:=Kd.S_slice ho
 have HM:=aQ (S29_reads HO0.out).2.2.2.1
 clear hB ho hN
 go_enter Try.func54,Try.ntmps54
 go_wp2
 go_loopw [1,5] (fun v1 v5 w'=>∃ (i:Nat) (K:Int),i ≤ l0.length∧v1 = .int .i64 K∧v5 = .int .i64 (i:Int)∧Aside0 (K = (mkL (l0.take i) a1).1)∧Aside0 (Kd.S q29 29 w' w0.heap.size P0_ (.slice Au l0.length cu) (mkTo l0 a1 i))∧Aside0 (Kept w w' P0_)∧Aside0 (Below w0.heap.size w0 w')) (fun _ v5 _=>l0.length - (intOf v5).toNat)
 case atStart=>exact ⟨0,a1,Nat.zero_le _,rfl,rfl,⟨by simp [mkL]⟩,by simpa [mkTo,mkL] using HO0,HK,HB⟩
 case round =>
  obtain ⟨i,K,hi,rfl,rfl,HKe,HO,HK,HB⟩:=hrel
  have hm:=HM.out
  have hlen:=mkTo_len l0 a1 hi
  by_cases hlt:i < l0.length
  ·obtain ⟨go,cap,eo,gb,gl,cl,HG⟩:=Kd.S_form HO.out (by omega)
   injection eo with ea en ec
   subst ea
   subst ec
   clear en
   obtain ⟨oki,c,hcl,hM,hcc,hfr,hoki,hH⟩:=Kd.S_elem HO.out z29 (i:Int) (by omega) (by omega)
   rw [Int.toNat_natCast,mkTo_at a1 hlt] at hM
   obtain ⟨x,hx⟩:∃ x,x = l0[i]:=⟨_,rfl⟩
   rw [← hx] at hM
   obtain ⟨ve,rfl,ge⟩:=q29_openM hM
   obtain ⟨Av,cv,rfl⟩:=Kd.S_slice ge
   have hng:∀ k,oki k → k ≠ go:=fun k hk=>(hoki k hk).2
   have hP:P0_ go:=S_ok HO.out
   have hH1:=Kd.H_seg hH (by omega) (by omega) (seg:=[.int .i64 K]) (j:=0) (show 1 ≤ 3 by decide) (by intro q hq;rw [List.mem_singleton.1 hq];rfl)
   have hH2:=Kd.H_seg hH1.1 (by omega) (by omega) (seg:=[.int .i64 (wrap64 (K + 1))]) (j:=1) (show 2 ≤ 3 by decide) (by intro q hq;rw [List.mem_singleton.1 hq];rfl)
   have c0:=H_cells hH (by omega) (by omega)
   have c1:=H_cells hH1.1 (by omega) (by omega)
   have c2:=H_cells hH2.1 (by omega) (by omega)
   have hs1:=Kd.S_grown ge hH1.2 (fun k hk he=>hng k hk (by injection he))
   have hs2:=Kd.S_grown hs1 hH2.2 (fun k hk he=>hng k hk (by injection he))
   have hk2:=Kept.of_grown hH2.2 (Kept.of_grown hH1.2 HK.out (fun k hk=>.inl (by injection hk with hk;exact hk ▸ hP))) (fun k hk=>.inl (by injection hk with hk;exact hk ▸ hP))
   have ce:=fun (W:World) (c:List Value) (h:(∀ j u,c[j]? = some u → W.cell? ⟨go,(i:Int).toNat * q29.sz + j,none⟩ = some u)∧∀ j,W.frozen? ⟨go,(i:Int).toNat * q29.sz + j,none⟩ = false) (j:Nat) (u:Value) (hj:c[j]? = some u)=>(show W.cell? ⟨go,i * 3 + j,none⟩ = some u∧W.frozen? ⟨go,i * 3 + j,none⟩ = false from ⟨h.1 j u hj,h.2 j⟩)
   have hx0:wr.cell? ⟨go,i * 3,none⟩ = some (.int .i64 x.f0):=(ce _ _ c0 0 _ rfl).1
   have hf0:wr.frozen? ⟨go,i * 3,none⟩ = false:=(ce _ _ c0 0 _ rfl).2
   have C1:=aQ c1
   have C2:=aQ c2
   have CE:=aQ ce
   have HB2:=aQ (below_set (below_set HB.out gb (j:=i * 3) (v:=.int .i64 K)) gb (j:=i * 3 + 1) (v:=.int .i64 (wrap64 (K + 1))))
   have HH2:=aQ hH2.1
   have HS2:=aQ hs2
   have HK2:=aQ hk2
   have HOK:=aQ hoki
   have hNx:nodesL x.f2 < N:=by
    have h1:=nodesL_drop hlt
    have h2:nodesL l0 = nodesL (l0.take i) + nodesL (l0.drop i):=by rw [← nodesL_app,List.take_append_drop]
    rw [← hx] at h1
    have h3:x.nodes = 1 + nodesL x.f2:=by cases x;simp [S29.nodes]
    have:=HN.out
    omega
   have HX:=aQ hx
   clear hx hcl hM hcc hfr hoki hH hng hP hH1 hH2 c0 c1 c2 hs1 hs2 hk2 ge gb gl cl HG ce
   have hd:decide (i < l0.length) = true:=decide_eq_true hlt
   go_wp2_with (first
    | ((with_reducible refine gate_store (t:=3) (p:=16) rfl ?_);refine store_event (t:=3) (p:=16) (v:=?vo1) (w1:=wr.setCell ⟨go,i * 3,none⟩ (.int .i64 K)) ?hg ?ho ?hn ?hr ?_;(case ho=>rfl);(case hg=>rfl);(case hn=>rfl);(case hr=>first | (go_simp;done) | (go_simp;rfl));intro w5 hw;have hx1:w5.cell? ⟨go,i * 3 + 1,none⟩ = some (.int .i64 x.f1):=(by rw [hw];exact (CE.out _ _ C1.out 1 _ rfl).1);have hf1:w5.frozen? ⟨go,i * 3 + 1,none⟩ = false:=(by rw [hw];exact (CE.out _ _ C1.out 1 _ rfl).2);have HW5:=aQ hw;clear hw hx0 hf0)
    | ((with_reducible refine gate_store (t:=3) (p:=23) rfl ?_);refine store_event (t:=3) (p:=23) (v:=?vo2) (w1:=w5.setCell ⟨go,i * 3 + 1,none⟩ (.int .i64 (wrap64 (K + 1)))) ?hg ?ho ?hn ?hr ?_;(case ho=>rfl);(case hg=>rfl);(case hn=>rfl);(case hr=>first | (go_simp;done) | (go_simp;rfl));intro w6 hw;have hx2:w6.cell? ⟨go,i * 3 + 2,none⟩ = some (.slice Av x.f2.length cv):=(by rw [hw,HW5.out];exact (CE.out _ _ C2.out 2 _ rfl).1);have HW6:=aQ hw;clear hw hx1 hf1)
    | (go_at_call 54;(with_reducible refine (ih oki _ x.f2 _ w0 _ hNx ?side1 ?side2).mono ?_);(case side1=>rw [HW6.out,HW5.out];exact HB2.out);(case side2=>rw [HW6.out,HW5.out];exact HS2.out);rintro e w8 ⟨rfl,hS8,hB8,hK8⟩;have HS8:=aQ hS8;have HB8:=aQ hB8;have HK8:=aQ (show Kept _ w8 oki from hK8);clear hS8 hB8 hK8))
   have HH6:=aQ (show Kd.H q29 29 w6 w0.heap.size P0_ (.slice (some ⟨go,0,none⟩) l0.length cu) (mkTo l0 a1 i) (i:Int) oki [.int .i64 K,.int .i64 (wrap64 (K + 1)),.slice Av x.f2.length cv] from by rw [HW6.out,HW5.out];exact HH2.out)
   have HK6:=aQ (show Kept w w6 P0_ from by rw [HW6.out,HW5.out];exact HK2.out)
   have hS:=Kd.H_back (Kd.H_kept HH6.out HK8.out (fun k hk hn=>hn)) (q29_mkM w8 w0.heap.size oki ⟨K,wrap64 (K + 1),(mkL x.f2 (wrap64 (wrap64 (K + 1) + 1))).2⟩ HS8.out) (fun _ hk=>hk)
   have em:=mk1_eq x K
   rw [Int.toNat_natCast,show (⟨K,wrap64 (K + 1),(mkL x.f2 (wrap64 (wrap64 (K + 1) + 1))).2⟩:S29) = (x.mk1 K).2 by rw [em],HX.out,HKe.out,mkTo_succ a1 hlt] at hS
   have hK:=Kept.then_ HK6.out HK8.out (fun k hk=>.inl (HOK.out k hk).1)
   have et:(mkL (l0.take (i + 1)) a1).1 = (mkL x.f2 (wrap64 (wrap64 (K + 1) + 1))).1:=by rw [mkL_take hlt,← HKe.out,← HX.out,em]
   have HS9:=aQ hS
   have HK9:=aQ hK
   have ET:=aQ et.symm
   clear hS hK et em HH6 HK6 hd
   go_roundw
   case rel=>exact ⟨i + 1,_,by omega,rfl,by go_num,ET,HS9,HK9,HB8⟩
   case measure=>simp [intOf];omega
  ·have E:=aQ (show i = l0.length by omega)
   have hd:decide (i < l0.length) = false:=decide_eq_false hlt
   clear hm hlen
   go_wp2
   go_ret
   obtain rfl:=E.out
   have he:=HKe.out
   rw [List.take_length] at he
   have hs:=HO.out
   rw [mkTo_all] at hs
   exact ⟨by rw [← he];rfl,hs,HB.out,HK.out⟩
end Go.Proofs.Ytnkgcjdlfenepaa.P
