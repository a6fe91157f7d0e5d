/- impl.makes: whether a message can be put together of what a map holds. No condition. -/
import Derived.Test.YtbcjpdahdecehaaDoorP0
import Derived.Test.YtbcjpdahdecehaaDoorP3
import Derived.Test.YtbcjpdahdecehaaDoorMapW
import Derived.Test.YtbcjpdahdecehaaDoorCut
namespace Go.Proofs.YtbcjpdahdecehaaDoor.P
open Go.RowKit Go.Proofs.YtbcjpdahdecehaaDoorW.PrintWords Go.Proofs.YtbcjpdahdecehaaDoorW.PrintLast Go.Proofs.YtbcjpdahdecehaaDoorW.PrintMore
open Go.Maps (Keyed)
set_option linter.unusedVariables false
set_option linter.unusedSimpArgs false
theorem sealText_at {x:S25} (h:OkT x) (hn:x.nodes ≤ 12) (A:Option Addr) (c:Nat) (w:World) (hC:Kd.C k25 w A x.f2.length x.f2) (hc:x.f2.length ≤ c) :
  Calls Tryd.prog 46 #[.agg #[.int .i64 x.f0,.int .i64 x.f1,.slice A x.f2.length c]] w fun e w'=>e = .returned (.string x.tx)∧Below w.heap.size w w':=by
 obtain ⟨k,hk⟩:=(text_ev h hn).rounds
 exact impl_sealText.calls k _ _ _ _ _ _ w hC hc hk
theorem own_below {w w':World} {b n:Nat} {D:DataW Value} (h:w.ownsMap Tryd.prog 9 RV b n D) (hb:Below w.heap.size w w'):w'.ownsMap Tryd.prog 9 RV b n D:=h.kept (grown_of_below hb none) (by simp)
def Says (D:DataW Value) (S:ByteArray → Bool):Prop:=∀ s:ByteArray,s.size ≤ maxLen → Go.Maps.has D (.string s.data.toList) = S s
theorem lookup_seal {P:Program} (hP:P = Tryd.prog) (w:World) {ops:Array Oper} {rest:List Oper} {o:Oper} {a:Act} {Q:Exit → Act → World → Prop} (hg:o.guard = none) (m x:Operand) (hop:o.op = Op.lookup 65 m x true)
  (b n:Nat) (D:DataW Value) (hm:a.eval m = .map (some b)) (hown:w.ownsMap Tryd.prog 9 RV b n D) (key:Value) (kl:Lit) (hx:a.eval x = key) (hkey:keyOf Tryd.prog 9 key = some kl)
  (hK:∀ (x0 x1:Int) (x2:Option Addr) (x3 x4:Nat),wpList P ops Q rest (a.put o.dst (.tuple #[.agg #[.int .i64 x0,.int .i64 x1,.slice x2 x3 x4],.bool (Go.Maps.has D kl)])) w):wpList P ops Q (o :: rest) a w:=by
 subst hP
 refine wpList_lookup_own_ok w hg m x 65 hop 9 25 lawK Tryd.underlying65 RV (zeroE _) (.held (mv 0 0 none 0 0)) [] (RV_mk _ _ _ _ _) b n D hm hown key kl hx hkey fun v ps hv=>?_
 obtain ⟨⟨x0,x1,x2,x3,x4,rfl⟩,_⟩:=RV_inv hv
 exact hK x0 x1 x2 x3 x4
theorem two_cells {w:World} {A:Option Addr} {p q:S25} (h:Kd.C k25 w A ([p,q]:List S25).length [p,q]):∃ ad Ap cp Aq cq,A = some ad∧w.cell? ad = some (.int .i64 p.f0)∧w.cell? ⟨ad.block,ad.off + 1,none⟩ = some (.int .i64 p.f1)∧w.cell? ⟨ad.block,ad.off + 2,none⟩ = some (.slice Ap p.f2.length cp) ∧
  w.cell? ⟨ad.block,ad.off + 3,none⟩ = some (.int .i64 q.f0)∧w.cell? ⟨ad.block,ad.off + 3 + 1,none⟩ = some (.int .i64 q.f1)∧w.cell? ⟨ad.block,ad.off + 3 + 2,none⟩ = some (.slice Aq q.f2.length cq)∧p.f2.length ≤ cp∧Kd.C k25 w Ap p.f2.length p.f2∧q.f2.length ≤ cq∧Kd.C k25 w Aq q.f2.length q.f2:=by
 obtain ⟨ad,Ap,cp,rfl,h0,h1,h2,hl,hC⟩:=at_T25 h 0 (by decide) (by simp)
 obtain ⟨ad',Aq,cq,e,g0,g1,g2,gl,gC⟩:=at_T25 h 1 (by decide) (by simp)
 injection e with e
 subst e
 rw [show ((0:Int)).toNat * 3 = 0 from rfl,Addr.add_zero'] at h0 h1 h2
 simp only [show (1:Int).toNat = 1 from rfl,Nat.reduceMul,Nat.reduceEqDiff,Go.Addr.add,↓reduceIte] at g0 g1 g2
 exact ⟨ad,Ap,cp,Aq,cq,rfl,h0,h1,h2,g0,g1,g2,hl,hC,gl,gC⟩
set_option maxHeartbeats 1000000 in
set_option maxRecDepth 100000 in
theorem makes_yes {a b0:Int} {l:List S25} {S:ByteArray → Bool} {b n:Nat} {D:DataW Value} (hx:OkT ⟨a,b0,l⟩) (hn:(S25.mk a b0 l).nodes ≤ 12) (A:Option Addr) (c:Nat) (hc:l.length ≤ c) (w:World) (hC:Kd.C k25 w A l.length l) (hown:w.ownsMap Tryd.prog 9 RV b n D) (hS:Says D S) (hv:S (S25.mk a b0 l).tx = true) :
  Calls Tryd.prog 55 #[.map (some b),.agg #[.int .i64 a,.int .i64 b0,.slice A l.length c]] w fun e w'=>e = .returned (.bool true)∧Below w.heap.size w w':=by
 have hsz:(S25.mk a b0 l).tx.size ≤ maxLen:=by
  have:=(tx_size hx).2
  unfold maxLen
  omega
 have hs:=hS _ hsz
 have hk:=key_of hsz
 have ht:∀ w:World,Kd.C k25 w A l.length l → Calls Tryd.prog 46 #[.agg #[.int .i64 a,.int .i64 b0,.slice A l.length c]] w fun e w'=>e = .returned (.string (S25.mk a b0 l).tx)∧Below w.heap.size w w':=fun w hC=>sealText_at hx hn A c w hC hc
 rw [hv] at hs
 generalize (S25.mk a b0 l).tx = tx at *
 clear hv
 have HT:=Aside0.mk ht
 have HO:=Aside0.mk hown
 have HC:=Aside0.mk hC
 have HB:=Aside0.mk (Below.refl w.heap.size w)
 have HK:=Aside0.mk hk
 clear ht hown hk hC
 go_enter Tryd.func55,Tryd.ntmps55
 go_wp2_with (first
   | ((with_reducible refine gate_dst (N:=3) rfl ?_);refine box1 (N:=3) (cs:=#[.int .i64 a,.int .i64 b0,.slice A l.length c]) (t:=25) ?_;intro g3 hg w3 hbox hb;have n0:=aQ (own_below HO.out hb);have n1:=aQ (Kd.C_below HC.out hb);have n2:=aQ (below_step HB.out hb);have BK:=aQ hbox;clear HO HC HB hb hbox hg;have HO:=n0;have HC:=n1;have HB:=n2;clear n0 n1 n2;have hc0:w3.cell? ⟨g3,0,none⟩ = some (.int .i64 a):=(blk_cell BK.out 0).trans rfl;have hc1:w3.cell? ⟨g3,1,none⟩ = some (.int .i64 b0):=(blk_cell BK.out 1).trans rfl;have hc2:w3.cell? ⟨g3,2,none⟩ = some (.slice A l.length c):=(blk_cell BK.out 2).trans rfl)
   | (go_at_call 46;(with_reducible refine (HT.out _ HC.out).mono ?_);rintro e w4 ⟨rfl,hb⟩;have n0:=aQ (own_below HO.out hb);have n1:=aQ (Kd.C_below HC.out hb);have n2:=aQ (below_step HB.out hb);have n3:=aQ (blk_below BK.out hb);clear HO HC HB BK hb hc0 hc1 hc2;have HO:=n0;have HC:=n1;have HB:=n2;have BK:=n3;clear n0 n1 n2 n3)
   | (at_lookup;refine lookup_seal rfl _ rfl _ _ rfl b n D rfl HO.out _ _ rfl HK.out ?_;intro x0 x1 x2 x3 x4)
   | fail)
 go_ret
 exact ⟨rfl,HB.out.alloc HB.out.size _⟩
set_option maxHeartbeats 1000000 in
set_option maxRecDepth 100000 in
theorem makes_none {b0:Int} {l:List S25} {S:ByteArray → Bool} {b n:Nat} {D:DataW Value} (hx:OkT ⟨0,b0,l⟩) (hn:(S25.mk 0 b0 l).nodes ≤ 12) (A:Option Addr) (c:Nat) (hc:l.length ≤ c) (w:World) (hC:Kd.C k25 w A l.length l) (hown:w.ownsMap Tryd.prog 9 RV b n D) (hS:Says D S) (hv:S (S25.mk 0 b0 l).tx = false) :
  Calls Tryd.prog 55 #[.map (some b),.agg #[.int .i64 0,.int .i64 b0,.slice A l.length c]] w fun e w'=>e = .returned (.bool false)∧Below w.heap.size w w':=by
 have hsz:(S25.mk 0 b0 l).tx.size ≤ maxLen:=by
  have:=(tx_size hx).2
  unfold maxLen
  omega
 have hs:=hS _ hsz
 have hk:=key_of hsz
 have ht:∀ w:World,Kd.C k25 w A l.length l → Calls Tryd.prog 46 #[.agg #[.int .i64 0,.int .i64 b0,.slice A l.length c]] w fun e w'=>e = .returned (.string (S25.mk 0 b0 l).tx)∧Below w.heap.size w w':=fun w hC=>sealText_at hx hn A c w hC hc
 rw [hv] at hs
 generalize (S25.mk 0 b0 l).tx = tx at *
 clear hv
 have HT:=Aside0.mk ht
 have HO:=Aside0.mk hown
 have HC:=Aside0.mk hC
 have HB:=Aside0.mk (Below.refl w.heap.size w)
 have HK:=Aside0.mk hk
 clear ht hown hk hC
 go_enter Tryd.func55,Tryd.ntmps55
 go_wp2_with (first
   | ((with_reducible refine gate_dst (N:=3) rfl ?_);refine box1 (N:=3) (cs:=#[.int .i64 0,.int .i64 b0,.slice A l.length c]) (t:=25) ?_;intro g3 hg w3 hbox hb;have n0:=aQ (own_below HO.out hb);have n1:=aQ (Kd.C_below HC.out hb);have n2:=aQ (below_step HB.out hb);have BK:=aQ hbox;clear HO HC HB hb hbox hg;have HO:=n0;have HC:=n1;have HB:=n2;clear n0 n1 n2;have hc0:w3.cell? ⟨g3,0,none⟩ = some (.int .i64 0):=(blk_cell BK.out 0).trans rfl;have hc1:w3.cell? ⟨g3,1,none⟩ = some (.int .i64 b0):=(blk_cell BK.out 1).trans rfl;have hc2:w3.cell? ⟨g3,2,none⟩ = some (.slice A l.length c):=(blk_cell BK.out 2).trans rfl)
   | (go_at_call 46;(with_reducible refine (HT.out _ HC.out).mono ?_);rintro e w4 ⟨rfl,hb⟩;have n0:=aQ (own_below HO.out hb);have n1:=aQ (Kd.C_below HC.out hb);have n2:=aQ (below_step HB.out hb);have n3:=aQ (blk_below BK.out hb);clear HO HC HB BK hb hc0 hc1 hc2;have HO:=n0;have HC:=n1;have HB:=n2;have BK:=n3;clear n0 n1 n2 n3)
   | (at_lookup;refine lookup_seal rfl _ rfl _ _ rfl b n D rfl HO.out _ _ rfl HK.out ?_;intro x0 x1 x2 x3 x4;have hg3:g3 < w4.heap.size:=blk_lt BK.out;have hc0:w4.cell? ⟨g3,0,none⟩ = some (.int .i64 0):=(blk_cell BK.out 0).trans rfl)
   | fail)
 go_ret
 exact ⟨rfl,HB.out.alloc HB.out.size _⟩
def Part (x:S25) (S:ByteArray → Bool) (b n:Nat) (D:DataW Value):Prop:=∀ (A:Option Addr) (c:Nat) (w:World),Kd.C k25 w A x.f2.length x.f2 → x.f2.length ≤ c → w.ownsMap Tryd.prog 9 RV b n D →
  Calls Tryd.prog 55 #[.map (some b),.agg #[.int .i64 x.f0,.int .i64 x.f1,.slice A x.f2.length c]] w fun e w'=>e = .returned (.bool (x.mkb S))∧Below w.heap.size w w'
set_option maxHeartbeats 2000000 in
set_option maxRecDepth 100000 in
theorem makes_two {a b0:Int} (ha:a ≠ 0) {p q:S25} {S:ByteArray → Bool} {b n:Nat} {D:DataW Value} (hx:OkT ⟨a,b0,[p,q]⟩) (hn:(S25.mk a b0 [p,q]).nodes ≤ 12) (A:Option Addr) (c:Nat) (hc:([p,q]:List S25).length ≤ c) (w:World) (hC:Kd.C k25 w A ([p,q]:List S25).length [p,q]) (hown:w.ownsMap Tryd.prog 9 RV b n D) (hS:Says D S) (hv:S (S25.mk a b0 [p,q]).tx = false) (hp:Part p S b n D) (hq:Part q S b n D) :
  Calls Tryd.prog 55 #[.map (some b),.agg #[.int .i64 a,.int .i64 b0,.slice A ([p,q]:List S25).length c]] w fun e w'=>e = .returned (.bool (p.mkb S && q.mkb S))∧Below w.heap.size w w':=by
 have hsz:(S25.mk a b0 [p,q]).tx.size ≤ maxLen:=by
  have:=(tx_size hx).2
  unfold maxLen
  omega
 have hs:=hS _ hsz
 have hk:=key_of hsz
 have ht:∀ w:World,Kd.C k25 w A ([p,q]:List S25).length [p,q] → Calls Tryd.prog 46 #[.agg #[.int .i64 a,.int .i64 b0,.slice A ([p,q]:List S25).length c]] w fun e w'=>e = .returned (.string (S25.mk a b0 [p,q]).tx)∧Below w.heap.size w w':=fun w hC=>sealText_at hx hn A c w hC hc
 rw [hv] at hs
 generalize (S25.mk a b0 [p,q]).tx = tx at *
 clear hv
 have ha1:(a != 0) = true:=by simpa using ha
 have ha0:(a == 0) = false:=by simpa using ha
 obtain ⟨ad,_,_,_,_,rfl,_⟩:=two_cells hC
 have HP:=Aside0.mk hp
 have HQ:=Aside0.mk hq
 clear hp hq ha hx hn hS
 have HT:=Aside0.mk ht
 have HO:=Aside0.mk hown
 have HC:=Aside0.mk hC
 have HB:=Aside0.mk (Below.refl w.heap.size w)
 have HK:=Aside0.mk hk
 clear ht hown hk hC
 simp only [List.length_cons,List.length_nil,Nat.zero_add,Nat.reduceAdd] at *
 cases hb1:p.mkb S with
 | false =>
  go_enter Tryd.func55,Tryd.ntmps55
  go_wp2_with (first
   | ((with_reducible refine gate_dst (N:=3) rfl ?_);refine box1 (N:=3) (cs:=#[.int .i64 a,.int .i64 b0,.slice (some ad) 2 c]) (t:=25) ?_;intro g3 hg w3 hbox hb;have n0:=aQ (own_below HO.out hb);have n1:=aQ (Kd.C_below HC.out hb);have n2:=aQ (below_step HB.out hb);have BK:=aQ hbox;clear HO HC HB hb hbox hg;have HO:=n0;have HC:=n1;have HB:=n2;clear n0 n1 n2;have hc0:w3.cell? ⟨g3,0,none⟩ = some (.int .i64 a):=(blk_cell BK.out 0).trans rfl;have hc1:w3.cell? ⟨g3,1,none⟩ = some (.int .i64 b0):=(blk_cell BK.out 1).trans rfl;have hc2:w3.cell? ⟨g3,2,none⟩ = some (.slice (some ad) 2 c):=(blk_cell BK.out 2).trans rfl)
   | (go_at_call 46;(with_reducible refine (HT.out _ HC.out).mono ?_);rintro e w4 ⟨rfl,hb⟩;have n0:=aQ (own_below HO.out hb);have n1:=aQ (Kd.C_below HC.out hb);have n2:=aQ (below_step HB.out hb);have n3:=aQ (blk_below BK.out hb);clear HO HC HB BK hb hc0 hc1 hc2;have HO:=n0;have HC:=n1;have HB:=n2;have BK:=n3;clear n0 n1 n2 n3)
   | (at_lookup;refine lookup_seal rfl _ rfl _ _ rfl b n D rfl HO.out _ _ rfl HK.out ?_;intro x0 x1 x2 x3 x4;have hg3:g3 < w4.heap.size:=blk_lt BK.out;have hc0:w4.cell? ⟨g3,0,none⟩ = some (.int .i64 a):=(blk_cell BK.out 0).trans rfl;have hc2:w4.cell? ⟨g3,2,none⟩ = some (.slice (some ad) 2 c):=(blk_cell BK.out 2).trans rfl;obtain ⟨ad',Ap,cp,Aq,cq,e,h0,h1,h2,g0,g1,g2,hl,hCp,gl,hCq⟩:=two_cells HC.out;cases e;have hlt:ad.block < w4.heap.size:=World.block_lt_of_cell? _ _ h0)
   | fail)
  refine (HP.out Ap cp _ (Kd.C_alloc hCp _) hl (HO.out.alloc _)).mono ?_
  rintro e w6 ⟨rfl,hb⟩
  have n0:=aQ (own_below (HO.out.alloc _) hb)
  have n1:=aQ (Kd.C_below (Kd.C_alloc hCq _) hb)
  have n2:=aQ (below_step (HB.out.alloc HB.out.size _) hb)
  go_wp2
  go_ret
  exact ⟨by rw [Bool.false_and];rfl,n2.out⟩
 | true =>
  go_enter Tryd.func55,Tryd.ntmps55
  go_wp2_with (first
   | ((with_reducible refine gate_dst (N:=3) rfl ?_);refine box1 (N:=3) (cs:=#[.int .i64 a,.int .i64 b0,.slice (some ad) 2 c]) (t:=25) ?_;intro g3 hg w3 hbox hb;have n0:=aQ (own_below HO.out hb);have n1:=aQ (Kd.C_below HC.out hb);have n2:=aQ (below_step HB.out hb);have BK:=aQ hbox;clear HO HC HB hb hbox hg;have HO:=n0;have HC:=n1;have HB:=n2;clear n0 n1 n2;have hc0:w3.cell? ⟨g3,0,none⟩ = some (.int .i64 a):=(blk_cell BK.out 0).trans rfl;have hc1:w3.cell? ⟨g3,1,none⟩ = some (.int .i64 b0):=(blk_cell BK.out 1).trans rfl;have hc2:w3.cell? ⟨g3,2,none⟩ = some (.slice (some ad) 2 c):=(blk_cell BK.out 2).trans rfl)
   | (go_at_call 46;(with_reducible refine (HT.out _ HC.out).mono ?_);rintro e w4 ⟨rfl,hb⟩;have n0:=aQ (own_below HO.out hb);have n1:=aQ (Kd.C_below HC.out hb);have n2:=aQ (below_step HB.out hb);have n3:=aQ (blk_below BK.out hb);clear HO HC HB BK hb hc0 hc1 hc2;have HO:=n0;have HC:=n1;have HB:=n2;have BK:=n3;clear n0 n1 n2 n3)
   | (at_lookup;refine lookup_seal rfl _ rfl _ _ rfl b n D rfl HO.out _ _ rfl HK.out ?_;intro x0 x1 x2 x3 x4;have hg3:g3 < w4.heap.size:=blk_lt BK.out;have hc0:w4.cell? ⟨g3,0,none⟩ = some (.int .i64 a):=(blk_cell BK.out 0).trans rfl;have hc2:w4.cell? ⟨g3,2,none⟩ = some (.slice (some ad) 2 c):=(blk_cell BK.out 2).trans rfl;obtain ⟨ad',Ap,cp,Aq,cq,e,h0,h1,h2,g0,g1,g2,hl,hCp,gl,hCq⟩:=two_cells HC.out;cases e;have hlt:ad.block < w4.heap.size:=World.block_lt_of_cell? _ _ h0)
   | fail)
  refine (HP.out Ap cp _ (Kd.C_alloc hCp _) hl (HO.out.alloc _)).mono ?_
  rintro e w6 ⟨rfl,hb⟩
  have n0:=aQ (own_below (HO.out.alloc _) hb)
  have n1:=aQ (Kd.C_below (Kd.C_alloc hCq _) hb)
  have n2:=aQ (below_step (HB.out.alloc HB.out.size _) hb)
  have n3:=aQ (blk_below (blk_alloc BK.out _) hb)
  have g30:w6.cell? ⟨g3,2,none⟩ = some (.slice (some ad) 2 c):=(blk_cell n3.out 2).trans rfl
  have k0:w6.cell? ⟨ad.block,ad.off + 3,none⟩ = some (.int .i64 q.f0):=(hb.cell (p:=⟨ad.block,ad.off + 3,none⟩) (by simp;omega)).trans (by go_simp)
  have k1:w6.cell? ⟨ad.block,ad.off + 3 + 1,none⟩ = some (.int .i64 q.f1):=(hb.cell (p:=⟨ad.block,ad.off + 3 + 1,none⟩) (by simp;omega)).trans (by go_simp)
  have k2:w6.cell? ⟨ad.block,ad.off + 3 + 2,none⟩ = some (.slice Aq q.f2.length cq):=(hb.cell (p:=⟨ad.block,ad.off + 3 + 2,none⟩) (by simp;omega)).trans (by go_simp)
  clear hb
  go_wp2_with (fail)
  refine (HQ.out Aq cq _ n1.out gl n0.out).mono ?_
  rintro e w7 ⟨rfl,hb⟩
  have n4:=aQ (below_step n2.out hb)
  go_wp2
  go_ret
  exact ⟨by rw [Bool.true_and];rfl,n4.out⟩
theorem makes_calls {S:ByteArray → Bool} {b n:Nat} {D:DataW Value} (hS:Says D S) {x:S25} (hx:OkT x):x.nodes ≤ 12 → Part x S b n D:=by
 induction hx with
 | name b0 h0 h1 =>
  intro hn A c w hC hc hown
  have hx:=OkT.name b0 h0 h1
  cases hv:S (S25.mk 0 b0 []).tx with
  | true =>
   have e:(S25.mk 0 b0 []).mkb S = true:=by rw [S25.mkb,hv];rfl
   rw [e]
   exact makes_yes hx hn A c hc w hC hown hS hv
  | false =>
   have e:(S25.mk 0 b0 []).mkb S = false:=by rw [S25.mkb,hv];simp
   rw [e]
   exact makes_none hx hn A c hc w hC hown hS hv
 | pair p q hp hq i1 i2 =>
  intro hn A c w hC hc hown
  have hx:=OkT.pair p q hp hq
  have hn':=hn
  rw [nodes2] at hn'
  cases hv:S (S25.mk 1 0 [p,q]).tx with
  | true =>
   have e:(S25.mk 1 0 [p,q]).mkb S = true:=by rw [S25.mkb,hv];rfl
   rw [e]
   exact makes_yes hx hn A c hc w hC hown hS hv
  | false =>
   have e:(S25.mk 1 0 [p,q]).mkb S = (p.mkb S && q.mkb S):=by rw [S25.mkb,hv];simp [mkL,mkH]
   rw [e]
   exact makes_two (by decide) hx hn A c hc w hC hown hS hv (i1 (by omega)) (i2 (by omega))
 | shut p q hp hq i1 i2 =>
  intro hn A c w hC hc hown
  have hx:=OkT.shut p q hp hq
  have hn':=hn
  rw [nodes2] at hn'
  cases hv:S (S25.mk 2 0 [p,q]).tx with
  | true =>
   have e:(S25.mk 2 0 [p,q]).mkb S = true:=by rw [S25.mkb,hv];rfl
   rw [e]
   exact makes_yes hx hn A c hc w hC hown hS hv
  | false =>
   have e:(S25.mk 2 0 [p,q]).mkb S = (p.mkb S && q.mkb S):=by rw [S25.mkb,hv];simp [mkL,mkH]
   rw [e]
   exact makes_two (by decide) hx hn A c hc w hC hown hS hv (i1 (by omega)) (i2 (by omega))
end Go.Proofs.YtbcjpdahdecehaaDoor.P
