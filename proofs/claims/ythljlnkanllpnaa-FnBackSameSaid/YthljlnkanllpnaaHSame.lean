/- HistorySame, with its closures: of every thread the same events. No condition. -/
import Derived.Test.YthljlnkanllpnaaP0
import Derived.Test.YthljlnkanllpnaaP2
import Derived.Test.YthljlnkanllpnaaP3
import Derived.Test.YthljlnkanllpnaaHDel
import Derived.Test.YthljlnkanllpnaaHHas
import Derived.Test.YthljlnkanllpnaaBase
namespace Go.Proofs.Ythljlnkanllpnaa.P
open Go.RowKit Go.Proofs.YthljlnkanllpnaaW.PrintWords Go.Proofs.YthljlnkanllpnaaW.PrintLast Go.Proofs.YthljlnkanllpnaaW.PrintMore Go.Proofs.Ythljlnkanllpnaa.Any
set_option linter.unusedVariables false
set_option linter.unusedSimpArgs false
theorem equalE_ev (xs ys:List S32) (hm:xs.length ≤ 9223372036854775806):Ev (fun k=>impl_Event_79.f k xs ys) (decide (xs = ys)):=by
 by_cases hl:xs.length = ys.length
 ·have loop:∀ (d i:Nat),i + d = xs.length → Ev (fun k=>impl_Event_79.l0 k xs ys xs.length i) (decide (xs.drop i = ys.drop i)):=by
   intro d
   induction d with
   | zero =>
    intro i hi
    rw [List.drop_eq_nil_of_le (by omega),List.drop_eq_nil_of_le (by omega)]
    refine Ev.step (f:=fun _=>some true) (fun k=>?_) (Ev.to (Ev.now true) (by simp))
    simp only [impl_Event_79.l0]
    rw [if_neg (by omega)]
   | succ d ih =>
    intro i hi
    have h1:i < xs.length:=by omega
    have h2:i < ys.length:=by omega
    rw [List.drop_eq_getElem_cons h1,List.drop_eq_getElem_cons h2]
    by_cases e:xs[i] = ys[i]
    ·refine Ev.step (fun k=>?_) (Ev.to (ih (i + 1) (by omega)) (by rw [decide_eq_decide,List.cons.injEq];simp only [e,true_and]))
     simp only [impl_Event_79.l0,rdE_at _ _ h1,rdE_at _ _ h2,evNe,decide_eq_true e]
     rw [if_pos (by omega),if_pos (by omega),if_pos (by omega),if_pos (by omega),if_neg (by simp),wrap_succ h1 (by omega)]
    ·refine Ev.step (f:=fun _=>some false) (fun k=>?_) (Ev.to (Ev.now false) (decide_eq_false (fun h=>e (List.cons.inj h).1)).symm)
     simp only [impl_Event_79.l0,rdE_at _ _ h1,rdE_at _ _ h2,evNe,decide_eq_false e]
     rw [if_pos (by omega),if_pos (by omega),if_pos (by omega),if_pos (by omega),if_pos (by simp)]
  refine Ev.congr (fun k=>?_) (loop xs.length 0 (by omega))
  simp only [impl_Event_79.f]
  rw [if_pos (by omega)]
  rfl
 ·refine Ev.congr (f:=fun _=>some false) (fun k=>?_) (Ev.to (Ev.now false) (decide_eq_false (fun e=>hl (by rw [e]))).symm)
  simp only [impl_Event_79.f]
  rw [if_neg (by omega)]
theorem equalE_calls (A0:Option Addr) (c0:Nat) (xs:List S32) (A1:Option Addr) (c1:Nat) (ys:List S32) (w:World) (h0:Kd.C k32 w A0 xs.length xs) (k0:xs.length ≤ c0) (h1:Kd.C k32 w A1 ys.length ys) (k1:ys.length ≤ c1) (hm:xs.length ≤ 9223372036854775806) :
  Calls Try.prog 79 #[.slice A0 xs.length c0,.slice A1 ys.length c1] w fun e w'=>e = .returned (.bool (decide (xs = ys)))∧Drawn0 w w':=by
 obtain ⟨k,hk⟩:=(equalE_ev xs ys hm).rounds
 exact impl_Event_79.calls k A0 c0 xs A1 c1 ys _ w h0 k0 h1 k1 hk
set_option maxHeartbeats 8000000 in
set_option maxRecDepth 100000 in
theorem hasPred (g7:Nat) (k:Int) (w:World) (h7:w.heap[g7]? = some (.cells #[.int .i64 k] 3 (0,0))):PredE 77 #[.pointer (some ⟨g7,0,none⟩)] (fun e=>some (!hasB e k)) w:=by
 intro y b W hB hp
 have hu32:=Try.underlying32
 obtain rfl:=Option.some.inj hp
 have hcall:=fun W'=>impl_has.calls y.f0 y.f1 k (hasB y k) W' (has_f y k)
 generalize hasB y k = b at hcall ⊢
 obtain ⟨y0,y1⟩:=y
 dsimp only at hcall ⊢
 have HC:=Aside0.mk hcall
 have BK:=Aside0.mk (blk_below h7 hB)
 have HB:=Aside0.mk (Below.refl W.heap.size W)
 have hz:W.cell? ⟨g7,0,none⟩ = some (.int .i64 k):=(blk_cell BK.out 0).trans rfl
 clear h7 hB hp hcall
 show Calls Try.prog 77 #[.agg #[.int .i64 y0,.int .i64 y1],.pointer (some ⟨g7,0,none⟩)] W _
 go_enter Try.func77,Try.ntmps77
 go_wp2_with (first | ((with_reducible refine gate_dst (N:=2) rfl ?_);refine box_event ?hg (N:=2) ?hd (cs:=#[.int .i64 y0,.int .i64 y1]) (t:=32) ?hr ?_;(case hd=>rfl);(case hg=>rfl);(case hr=>first | (go_simp;done) | (go_simp;rfl));intro g3 hg w5 hbox hb;have n0_:=Aside0.mk (below_step HB.out hb);have n1_:=Aside0.mk (blk_below BK.out hb);have BE:=Aside0.mk hbox;clear HB BK hz;have HB:=n0_;have BK:=n1_;clear n0_ n1_ hb hbox hg;have hz:w5.cell? ⟨g7,0,none⟩ = some (.int .i64 k):=(blk_cell BK.out 0).trans rfl;have hz0:w5.cell? ⟨g3,0,none⟩ = some (.int .i64 y0):=(blk_cell BE.out 0).trans rfl;have hz1:w5.cell? ⟨g3,1,none⟩ = some (.int .i64 y1):=(blk_cell BE.out 1).trans rfl) | (go_at_call 78;(with_reducible refine (HC.out _).mono ?_);rintro e w6 ⟨rfl,hb⟩;have n0_:=Aside0.mk (below_step HB.out hb);clear HB;have HB:=n0_;clear n0_ hb))
 go_ret
 exact ⟨rfl,HB.out⟩
theorem deleteFuncV (gf:Nat) (lb:Array Value) (eg:∀ args w,(callFunc gf args).run Try.prog w = .ok (.enter gf args) w) (p:S32 → Bool) (A:Option Addr) (cap:Nat) (xs:List S32) (w0 w:World) (hB:Below w0.heap.size w0 w) (hp:PredE gf lb (fun e=>some (p e)) w0)
  (ho:Kd.R k32 32 w w0.heap.size (fun _=>True) (.slice A xs.length cap) xs) :
  Calls Try.prog 76 #[.slice A xs.length cap,.func (.func gf) #[] lb] w fun e w'=>∃ v:Value,e = .returned v∧Kd.R k32 32 w' w0.heap.size (fun _=>True) v (xs.filter (fun e=>!p e))∧Below w0.heap.size w0 w':=by
 rcases Nat.eq_zero_or_pos xs.length with h0 | h0
 ·obtain rfl:=List.eq_nil_of_length_eq_zero h0
  have hidx:=idxE gf lb eg (fun e=>some (p e)) A cap [] w (fun x b W hb h=>hp x b W (below_step hB hb) h) (Kd.R_reads' ho).2.2 (Kd.R_reads' ho).2.1 (-1) rfl
  simp only [List.length_nil] at hidx
  have HIDX:=Aside0.mk hidx
  have HO:=Aside0.mk ho
  have HB:=Aside0.mk hB
  clear hidx ho hB hp h0
  go_enter Try.func76,Try.ntmps76
  go_wp2_with (go_at_call 93;(with_reducible refine (HIDX.out).mono ?_);rintro e w1 ⟨rfl,hb⟩)
  go_ret
  exact ⟨_,rfl,Kd.R_below HO.out hb,below_step HB.out hb⟩
 ·obtain ⟨go,cap',e,_,_,_⟩:=Kd.R_form ho h0
  injection e with e1 e2 e3
  subst e1
  exact (deleteFuncE gf lb eg p go cap xs.length xs w0 w hB hp rfl ho).mono fun e w' ⟨m,hm,he,hr,hb⟩=>⟨_,he,hr,hb⟩
set_option maxHeartbeats 8000000 in
set_option maxRecDepth 100000 in
theorem mine_calls (g7:Nat) (k:Int) (A:Option Addr) (c:Nat) (xs:List S32) (w:World) (h7:w.heap[g7]? = some (.cells #[.int .i64 k] 3 (0,0))) (hr:Kd.C k32 w A xs.length xs) (hc:xs.length ≤ c) (hl:xs.length < 8796093022208) :
  Calls Try.prog 75 #[.slice A xs.length c,.pointer (some ⟨g7,0,none⟩)] w fun e w'=>∃ v,e = .returned v∧Kd.R k32 32 w' w.heap.size (fun _=>True) v (ofP xs k)∧Below w.heap.size w w':=by
 have HC:=Aside0.mk (cloneE A c xs w hr hc hl)
 have HP:=Aside0.mk (hasPred g7 k w h7)
 clear h7 hr hc hl
 go_enter Try.func75,Try.ntmps75
 go_wp2_with (first | (go_at_call 70;(with_reducible refine (HC.out).mono ?_);rintro e w1 ⟨v1,rfl,ho,hb⟩;obtain ⟨A1,c1,e1⟩:=Kd.R_slice ho;subst e1;have HD:=Aside0.mk (deleteFuncV 77 #[.pointer (some ⟨g7,0,none⟩)] (fun args w=>by rfl) (fun e=>!hasB e k) A1 c1 xs w w1 hb HP.out ho);clear ho hb HC) | (go_at_call 76;(with_reducible refine (HD.out).mono ?_);rintro e w2 ⟨v2,rfl,ho,hb⟩))
 go_ret
 have hf:xs.filter (fun e=>!(fun e=>!hasB e k) e) = ofP xs k:=by simp [ofP]
 rw [hf] at ho
 exact ⟨_,rfl,ho,hb⟩
inductive Step1:Prop
 | mk:Step1
inductive Step2:Prop
 | mk:Step2
theorem Step1.at (h:Step1):Step1:=h
theorem Step2.at (h:Step2):Step2:=h
def sameB (n:Nat) (g h:List S32):Bool:=(List.range n).all fun k:Nat=>decide (ofP g (k:Int) = ofP h (k:Int))
def impl_HistorySame.f (k:Nat) (l0:List (List Int)) (l1 l2:List S32):Option Bool:=(impl_HistoryOk.f k l0 l1).bind fun t=>if t = true then ((impl_HistoryOk.f k l0 l2).bind fun u=>if u = true then (if l1.length < 8796093022208 then (if l2.length < 8796093022208 then (if l0.length < 8796093022208 then some (sameB l0.length l1 l2) else none) else none) else none) else some false) else some false
theorem impl_HistorySame.mono:∀ a0 a1 a2 k,LeO (impl_HistorySame.f k a0 a1 a2) (impl_HistorySame.f (k + 1) a0 a1 a2):=by
 intro a0 a1 a2 k
 unfold impl_HistorySame.f
 exact LeO.bind (impl_HistoryOk.mono a0 a1 k) (fun _=>LeO.ite (LeO.bind (impl_HistoryOk.mono a0 a2 k) (fun _=>LeO.refl _)) (LeO.refl _))
set_option maxHeartbeats 8000000 in
set_option maxRecDepth 100000 in
theorem impl_HistorySame.calls (k:Nat) (A0:Option Addr) (c0:Nat) (l0:List (List Int)) (A1:Option Addr) (c1:Nat) (l1:List (S32)) (A2:Option Addr) (c2:Nat) (l2:List (S32)) (r:Bool) (w:World) (hr0:Kd.C (Kd.slice 3 (Kd.int .i64)) w A0 l0.length l0) (hc0:l0.length ≤ c0) (hr1:Kd.C k32 w A1 l1.length l1) (hc1:l1.length ≤ c1) (hr2:Kd.C k32 w A2 l2.length l2) (hc2:l2.length ≤ c2) (h:impl_HistorySame.f k l0 l1 l2 = some r) :
  Calls Try.prog 45 #[.slice A0 l0.length c0,.slice A1 l1.length c1,.slice A2 l2.length c2] w fun e w'=>e = .returned (.bool r)∧Below w.heap.size w w':=by
 have HR0:=Aside0.mk hr0
 have HC0:=Aside0.mk hc0
 have HR1:=Aside0.mk hr1
 have HC1:=Aside0.mk hc1
 have HR2:=Aside0.mk hr2
 have HC2:=Aside0.mk hc2
 have HB:=Aside0.mk (Below.refl w.heap.size w)
 have hs:=Step1.mk
 clear hr0 hc0 hr1 hc1 hr2 hc2
 unfold impl_HistorySame.f at h
 obtain ⟨t,hg,h⟩:=Option.bind_eq_some_iff.1 h
 have HG:=Aside0.mk hg
 clear hg
 cases t with
 | false =>
  rw [if_neg (by simp)] at h
  obtain rfl:=Option.some.inj h
  clear h
  go_enter Try.func45,Try.ntmps45
  go_wp2_with (go_at_call 27;(have _ck:=Step1.at hs);(with_reducible refine (impl_HistoryOk.calls k A0 c0 l0 A1 c1 l1 false _ (Kd.C_below HR0.out HB.out) HC0.out (Kd.C_below HR1.out HB.out) HC1.out HG.out).mono ?_);rintro e w' ⟨rfl,hb⟩;have n0_:=Aside0.mk (below_step HB.out hb);clear HB;have HB:=n0_;clear n0_ hb hs _ck;have hs:=Step2.mk)
  go_ret
  exact ⟨rfl,HB.out⟩
 | true =>
  rw [if_pos rfl] at h
  obtain ⟨u,hh,h⟩:=Option.bind_eq_some_iff.1 h
  have HH:=Aside0.mk hh
  clear hh
  cases u with
  | false =>
   rw [if_neg (by simp)] at h
   obtain rfl:=Option.some.inj h
   clear h
   go_enter Try.func45,Try.ntmps45
   go_wp2_with (first | (go_at_call 27;(have _ck:=Step1.at hs);(with_reducible refine (impl_HistoryOk.calls k A0 c0 l0 A1 c1 l1 true _ (Kd.C_below HR0.out HB.out) HC0.out (Kd.C_below HR1.out HB.out) HC1.out HG.out).mono ?_);rintro e w' ⟨rfl,hb⟩;have n0_:=Aside0.mk (below_step HB.out hb);clear HB;have HB:=n0_;clear n0_ hb hs _ck;have hs:=Step2.mk) | (go_at_call 27;(have _ck:=Step2.at hs);(with_reducible refine (impl_HistoryOk.calls k A0 c0 l0 A2 c2 l2 false _ (Kd.C_below HR0.out HB.out) HC0.out (Kd.C_below HR2.out HB.out) HC2.out HH.out).mono ?_);rintro e w' ⟨rfl,hb⟩;have n0_:=Aside0.mk (below_step HB.out hb);clear HB;have HB:=n0_;clear n0_ hb hs _ck))
   go_ret
   exact ⟨rfl,HB.out⟩
  | true =>
   rw [if_pos rfl] at h
   by_cases e1:l1.length < 8796093022208
   case neg=>rw [if_neg e1] at h;exact absurd h (by simp)
   by_cases e2:l2.length < 8796093022208
   case neg=>rw [if_pos e1,if_neg e2] at h;exact absurd h (by simp)
   by_cases e3:l0.length < 8796093022208
   case neg=>rw [if_pos e1,if_pos e2,if_neg e3] at h;exact absurd h (by simp)
   rw [if_pos e1,if_pos e2,if_pos e3] at h
   have HR:=Aside0.mk (Option.some.inj h)
   have HL1:=Aside0.mk e1
   have HL2:=Aside0.mk e2
   have HNN:=Aside0.mk e3
   clear h e1 e2 e3
   go_enter Try.func45,Try.ntmps45
   go_wp2_with (first | (go_at_call 27;(have _ck:=Step1.at hs);(with_reducible refine (impl_HistoryOk.calls k A0 c0 l0 A1 c1 l1 true _ (Kd.C_below HR0.out HB.out) HC0.out (Kd.C_below HR1.out HB.out) HC1.out HG.out).mono ?_);rintro e w' ⟨rfl,hb⟩;have n0_:=Aside0.mk (below_step HB.out hb);clear HB;have HB:=n0_;clear n0_ hb hs _ck;have hs:=Step2.mk) | (go_at_call 27;(have _ck:=Step2.at hs);(with_reducible refine (impl_HistoryOk.calls k A0 c0 l0 A2 c2 l2 true _ (Kd.C_below HR0.out HB.out) HC0.out (Kd.C_below HR2.out HB.out) HC2.out HH.out).mono ?_);rintro e w' ⟨rfl,hb⟩;have n0_:=Aside0.mk (below_step HB.out hb);clear HB;have HB:=n0_;clear n0_ hb hs _ck))
   go_loopg [21] l0.length (fun gg v21 W=>∃ kk:Nat,kk ≤ l0.length∧l0.length - kk ≤ gg∧v21 = .int .i64 (kk:Int)∧Aside0 (∀ j:Nat,j < kk → ofP l1 (j:Int) = ofP l2 (j:Int))∧Aside0 (Below w.heap.size w W))
   case atStart=>exact ⟨0,Nat.zero_le _,Nat.le_refl _,rfl,⟨fun j hj=>by omega⟩,HB⟩
   case round =>
    clear HB
    obtain ⟨kk,hkk,hgg,rfl,HJ,HB⟩:=hrel
    have hnn:=HNN.out
    by_cases hlt:kk < l0.length
    ·have c1_:decide ((kk:Int) < (l0.length:Int)) = true:=decide_eq_true (by omega)
     have c2_:decide (kk < l0.length) = true:=decide_eq_true hlt
     have HLO:=Aside0.mk (show (ofP l1 (kk:Int)).length ≤ 9223372036854775806 from by have:=ofP_length l1 (kk:Int);have:=HL1.out;omega)
     by_cases he:ofP l1 (kk:Int) = ofP l2 (kk:Int)
     ·have HE:=Aside0.mk (decide_eq_true he)
      have HEQ:=Aside0.mk he
      clear he
      go_wp2_with (first | ((with_reducible refine gate_dst (N:=7) rfl ?_);refine box_event ?hgA (N:=7) ?hdA (cs:=#[.int .i64 0]) (t:=3) ?hrA ?_;(case hdA=>rfl);(case hgA=>rfl);(case hrA=>first | (go_simp;done) | (go_simp;rfl));intro g7 hg w2 hbox hb;have n0_:=Aside0.mk (below_step HB.out hb);have BK:=Aside0.mk hbox;have GE:=Aside0.mk (show w.heap.size ≤ g7 from (by rw [hg];exact below_size HB.out));clear HB hbox hg hb;have HB:=n0_;clear n0_;have hz:w2.cell? ⟨g7,0,none⟩ = some (.int .i64 0):=(blk_cell BK.out 0).trans rfl;have hf:=blk_frozen BK.out 0) | ((with_reducible refine gate_store (t:=3) (p:=7) rfl ?_);refine store_event (t:=3) (p:=7) (v:=?voA) (w1:=(w2.setCell ⟨g7,0,none⟩ (.int .i64 (kk:Int)))) ?hgsA ?hosA ?hnsA ?hrsA ?_;(case hosA=>rfl);(case hgsA=>rfl);(case hnsA=>rfl);(case hrsA=>first | (go_simp;done) | (go_simp;rfl));intro w3 hw;have n0_:=Aside0.mk (show Below w.heap.size w w3 from (by rw [hw];exact below_set HB.out GE.out));have n1_:=Aside0.mk (show w3.heap[g7]? = some (.cells #[.int .i64 (kk:Int)] 3 (0,0)) from (by rw [hw];have:=blk_set BK.out 0 (.int .i64 (kk:Int));simpa using this));clear HB BK hw hz hf;have HB:=n0_;have BK:=n1_;clear n0_ n1_;have hs:=Step1.mk) | ((have _ck:=Step1.at hs);(with_reducible refine (mine_calls g7 (kk:Int) A1 c1 l1 w3 BK.out (Kd.C_below HR1.out HB.out) HC1.out HL1.out).mono ?_);rintro e w4 ⟨v4,rfl,ho,hb⟩;have HOA:=Aside0.mk ho;have n0_:=Aside0.mk (below_step HB.out hb);have n1_:=Aside0.mk (blk_below BK.out hb);clear HB BK ho hb hs _ck;have HB:=n0_;have BK:=n1_;clear n0_ n1_;have hs:=Step2.mk;obtain ⟨A4,c4,e4⟩:=Kd.R_slice HOA.out;subst e4) | ((have _ck:=Step2.at hs);(with_reducible refine (mine_calls g7 (kk:Int) A2 c2 l2 w4 BK.out (Kd.C_below HR2.out HB.out) HC2.out HL2.out).mono ?_);rintro e w5 ⟨v5,rfl,ho,hb⟩;have HOB:=Aside0.mk ho;have n0_:=Aside0.mk (below_step HB.out hb);have n1_:=Aside0.mk (Kd.R_below HOA.out hb);clear HB HOA BK ho hb hs _ck;have HB:=n0_;have HOA:=n1_;clear n0_ n1_;obtain ⟨A5,c5,e5⟩:=Kd.R_slice HOB.out;subst e5) | (go_at_call 79;(with_reducible refine (equalE_calls A4 c4 (ofP l1 (kk:Int)) A5 c5 (ofP l2 (kk:Int)) w5 (Kd.R_reads' HOA.out).2.2 (Kd.R_reads' HOA.out).2.1 (Kd.R_reads' HOB.out).2.2 (Kd.R_reads' HOB.out).2.1 (by have:=HLO.out;omega)).mono ?_);rw [HE.out];rintro e w6 ⟨rfl,hd⟩;have n0_:=Aside0.mk (below_step HB.out (Drawn0.below hd));clear HB hd;have HB:=n0_;clear n0_))
      go_roundg (l0.length - (kk + 1))
      case measure=>omega
      case rel=>exact ⟨kk + 1,by omega,by omega,by go_num,⟨fun j hj=>by
       rcases Nat.lt_or_eq_of_le (Nat.le_of_lt_succ hj) with h | rfl
       ·exact HJ.out j h
       ·exact HEQ.out⟩,HB⟩
     ·have HE:=Aside0.mk (decide_eq_false he)
      have HNE:=Aside0.mk he
      clear he
      go_wp2_with (first | ((with_reducible refine gate_dst (N:=7) rfl ?_);refine box_event ?hgB (N:=7) ?hdB (cs:=#[.int .i64 0]) (t:=3) ?hrB ?_;(case hdB=>rfl);(case hgB=>rfl);(case hrB=>first | (go_simp;done) | (go_simp;rfl));intro g7 hg w2 hbox hb;have n0_:=Aside0.mk (below_step HB.out hb);have BK:=Aside0.mk hbox;have GE:=Aside0.mk (show w.heap.size ≤ g7 from (by rw [hg];exact below_size HB.out));clear HB hbox hg hb;have HB:=n0_;clear n0_;have hz:w2.cell? ⟨g7,0,none⟩ = some (.int .i64 0):=(blk_cell BK.out 0).trans rfl;have hf:=blk_frozen BK.out 0) | ((with_reducible refine gate_store (t:=3) (p:=7) rfl ?_);refine store_event (t:=3) (p:=7) (v:=?voB) (w1:=(w2.setCell ⟨g7,0,none⟩ (.int .i64 (kk:Int)))) ?hgsB ?hosB ?hnsB ?hrsB ?_;(case hosB=>rfl);(case hgsB=>rfl);(case hnsB=>rfl);(case hrsB=>first | (go_simp;done) | (go_simp;rfl));intro w3 hw;have n0_:=Aside0.mk (show Below w.heap.size w w3 from (by rw [hw];exact below_set HB.out GE.out));have n1_:=Aside0.mk (show w3.heap[g7]? = some (.cells #[.int .i64 (kk:Int)] 3 (0,0)) from (by rw [hw];have:=blk_set BK.out 0 (.int .i64 (kk:Int));simpa using this));clear HB BK hw hz hf;have HB:=n0_;have BK:=n1_;clear n0_ n1_;have hs:=Step1.mk) | ((have _ck:=Step1.at hs);(with_reducible refine (mine_calls g7 (kk:Int) A1 c1 l1 w3 BK.out (Kd.C_below HR1.out HB.out) HC1.out HL1.out).mono ?_);rintro e w4 ⟨v4,rfl,ho,hb⟩;have HOA:=Aside0.mk ho;have n0_:=Aside0.mk (below_step HB.out hb);have n1_:=Aside0.mk (blk_below BK.out hb);clear HB BK ho hb hs _ck;have HB:=n0_;have BK:=n1_;clear n0_ n1_;have hs:=Step2.mk;obtain ⟨A4,c4,e4⟩:=Kd.R_slice HOA.out;subst e4) | ((have _ck:=Step2.at hs);(with_reducible refine (mine_calls g7 (kk:Int) A2 c2 l2 w4 BK.out (Kd.C_below HR2.out HB.out) HC2.out HL2.out).mono ?_);rintro e w5 ⟨v5,rfl,ho,hb⟩;have HOB:=Aside0.mk ho;have n0_:=Aside0.mk (below_step HB.out hb);have n1_:=Aside0.mk (Kd.R_below HOA.out hb);clear HB HOA BK ho hb hs _ck;have HB:=n0_;have HOA:=n1_;clear n0_ n1_;obtain ⟨A5,c5,e5⟩:=Kd.R_slice HOB.out;subst e5) | (go_at_call 79;(with_reducible refine (equalE_calls A4 c4 (ofP l1 (kk:Int)) A5 c5 (ofP l2 (kk:Int)) w5 (Kd.R_reads' HOA.out).2.2 (Kd.R_reads' HOA.out).2.1 (Kd.R_reads' HOB.out).2.2 (Kd.R_reads' HOB.out).2.1 (by have:=HLO.out;omega)).mono ?_);rw [HE.out];rintro e w6 ⟨rfl,hd⟩;have n0_:=Aside0.mk (below_step HB.out (Drawn0.below hd));clear HB hd;have HB:=n0_;clear n0_))
      go_ret
      have hr:r = false:=by
       rw [← HR.out]
       simp only [sameB,List.all_eq_false]
       exact ⟨kk,List.mem_range.2 hlt,by simp [HNE.out]⟩
      subst hr
      exact ⟨rfl,HB.out⟩
    ·have c1_:decide ((kk:Int) < (l0.length:Int)) = false:=decide_eq_false (by omega)
     have c2_:decide (kk < l0.length) = false:=decide_eq_false hlt
     have hr:r = true:=by
      rw [← HR.out]
      simp only [sameB,List.all_eq_true]
      intro j hj
      have:=List.mem_range.1 hj
      exact decide_eq_true (HJ.out j (by omega))
     subst hr
     go_wp2
     go_ret
     exact ⟨rfl,HB.out⟩
end Go.Proofs.Ythljlnkanllpnaa.P
