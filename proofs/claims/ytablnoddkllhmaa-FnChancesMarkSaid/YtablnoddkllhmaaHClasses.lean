/- chanceClasses: the classes of states that are alike, parted until nothing parts any more; with its two closures. No condition. -/
import Derived.Test.YtablnoddkllhmaaP0
import Derived.Test.YtablnoddkllhmaaP1
import Derived.Test.YtablnoddkllhmaaHParted
import Derived.Test.YtablnoddkllhmaaChRows
namespace Go.Proofs.Ytablnoddkllhmaa.P
open Go.RowKit Go.Proofs.YtablnoddkllhmaaW.PrintWords Go.Proofs.YtablnoddkllhmaaW.PrintLast Go.Proofs.YtablnoddkllhmaaW.PrintMore
set_option linter.unusedVariables false
set_option linter.unusedSimpArgs false
def smL (cl row:List Int):Nat → Nat → List Int → List Int
 | 0,_,out=>out
 | d + 1,t,out=>smL cl row d (t + 1) (out.set (rd cl t).toNat (wrap64 (rd out (rd cl t) + rd row t)))
def sumsP (ws:List (List Int)) (cl:List Int) (s:Nat):List Int:=smL cl (rd_L1 ws s) (rd_L1 ws s).length 0 (List.replicate cl.length 0)
theorem smL_length (cl row:List Int):∀ (d t:Nat) (out:List Int),(smL cl row d t out).length = out.length
 | 0,_,_=>rfl
 | d + 1,t,out=>by rw [smL,smL_length cl row d,List.length_set]
theorem sumsP_length (ws:List (List Int)) (cl:List Int) (s:Nat):(sumsP ws cl s).length = cl.length:=by rw [sumsP,smL_length,List.length_replicate]
structure InR (cl:List Int) (n:Nat):Prop where
 len:cl.length = n
 rng:∀ t:Nat,t < n → 0 ≤ rd cl t∧rd cl t < (n:Int)
theorem sums_l0 {cl row out0:List Int} {n:Nat} (hi:InR cl n) (hn:n ≤ 60) (hrow:row.length = n) (d:Nat):∀ (t:Nat) (out:List Int),t + d = n → out.length = n → Ev (fun k=>impl_sums.l0 k cl out row n t) (smL cl row d t out):=by
 have hl:=hi.len
 induction d with
 | zero =>
  intro t out ht ho
  refine Ev.step (f:=fun _=>some out) (fun k=>?_) (Ev.now out)
  simp only [impl_sums.l0]
  rw [if_neg (by omega)]
 | succ d ih =>
  intro t out ht ho
  have hr:=hi.rng t (by omega)
  refine Ev.step (fun k=>?_) (ih (t + 1) (out.set (rd cl t).toNat (wrap64 (rd out (rd cl t) + rd row t))) (by omega) (by rw [List.length_set];exact ho))
  simp only [impl_sums.l0]
  rw [if_pos (by omega),if_pos (by omega),if_pos (by omega),if_pos (by omega),if_pos hr.1,if_pos (by omega),wrap_succ (show t < n by omega) (by omega)]
theorem sums_ev {m cl:List Int} {ws:List (List Int)} {n s:Nat} (hr:Rows ws n) (hi:InR cl n) (hs:s < n):Ev (fun k=>impl_sums.f k m ws cl s) (sumsP ws cl s):=by
 have h1:=hr.le
 have h2:=hr.len
 have h3:=hr.row s hs
 have h4:=hi.len
 refine Ev.congr (fun k=>?_) (Ev.to (sums_l0 (out0:=cl) hi h1 h3 n 0 (List.replicate n 0) (by omega) (by simp)) (by rw [sumsP,h3,h4]))
 simp only [impl_sums.f]
 rw [if_pos (by omega),if_pos (by omega),if_pos (by omega),if_pos (by omega),h3,h4]
 rfl
theorem leastP_le (cl:List Int) (f:Nat → List Int) (s:Nat):∀ (d r:Nat),r + d ≤ s → leastP cl f s d r ≤ s
 | 0,r,_=>Nat.le_refl _
 | d + 1,r,h=>by
  rw [leastP]
  by_cases e:rd cl r = rd cl s∧f r = f s
  ·rw [if_pos e];omega
  ·rw [if_neg e];exact leastP_le cl f s d (r + 1) (by omega)
theorem least_le (cl:List Int) (f:Nat → List Int) (s:Nat):least cl f s ≤ s:=leastP_le cl f s s 0 (by omega)
theorem partP_length (cl:List Int) (f:Nat → List Int):(partP cl f).length = cl.length:=by simp [partP]
theorem partP_rd (cl:List Int) (f:Nat → List Int) (t:Nat) (h:t < cl.length):rd (partP cl f) t = (least cl f t:Int):=by
 rw [rd_nat _ _ (by rw [partP_length];exact h)]
 simp [partP]
theorem partP_in (cl:List Int) (f:Nat → List Int):InR (partP cl f) cl.length :=
 ⟨partP_length cl f,fun t ht=>by rw [partP_rd cl f t ht];have:=least_le cl f t;omega⟩
def marks1 (m:List Int) (s:Nat):List Int:=[rd m s]
def ccL (ws:List (List Int)):Nat → List Int → Option (List Int)
 | 0,_=>none
 | k + 1,cl=>if partP cl (sumsP ws cl) = cl then some (partP cl (sumsP ws cl)) else ccL ws k (partP cl (sumsP ws cl))
def ccStart (m:List Int):List Int:=partP (List.replicate m.length 0) (marks1 m)
def goodCh (m:List Int) (ws:List (List Int)):Prop:=m.length ≤ 60∧ws.length = m.length∧∀ x ∈ ws,x.length = m.length
instance (m:List Int) (ws:List (List Int)):Decidable (goodCh m ws):=by unfold goodCh;infer_instance
def impl_chanceClasses.f (k:Nat) (l0_0:List Int) (l0_1:List (List Int)):Option (List Int):=if goodCh l0_0 l0_1 then ccL l0_1 k (ccStart l0_0) else none
theorem ccL_mono (ws:List (List Int)):∀ k cl,LeO (ccL ws k cl) (ccL ws (k + 1) cl)
 | 0,cl=>fun r h=>by simp [ccL] at h
 | k + 1,cl=>by
  rw [ccL,ccL.eq_def ws (k + 1 + 1)]
  exact LeO.ite (LeO.refl _) (ccL_mono ws k _)
theorem impl_chanceClasses.mono:∀ a0 a1 k,LeO (impl_chanceClasses.f k a0 a1) (impl_chanceClasses.f (k + 1) a0 a1):=by
 intro a0 a1 k
 unfold impl_chanceClasses.f
 exact LeO.ite (ccL_mono _ _ _) (LeO.refl _)
theorem good_rows {m:List Int} {ws:List (List Int)} (h:goodCh m ws):Rows ws m.length :=
 ⟨h.1,h.2.1,fun i hi=>by rw [rdL_nat _ _ (by rw [h.2.1];exact hi)];exact h.2.2 _ (List.getElem_mem _)⟩
set_option maxHeartbeats 8000000 in
set_option maxRecDepth 100000 in
theorem num_marks (g1:Nat) (A0:Option Addr) (c0:Nat) (m:List Int) (v1:Value) (w:World) (hr:Kd.C (Kd.int .i64) w A0 m.length m) (hc:m.length ≤ c0) (hn:m.length ≤ 60) (hb:w.heap[g1]? = some (.cells #[.slice A0 m.length c0,v1] 28 (0,0))) (hlt:∀ ad,A0 = some ad → 0 < m.length → ad.block < w.heap.size) :
  Num 61 #[.pointer (some ⟨g1,0,none⟩)] m.length (marks1 m) w:=by
 intro s W hs hB
 obtain ⟨ad,e,_⟩:=hr.2.2 (by omega)
 subst e
 have hcell:=(Kd.at_int hr (s:Int) (by omega) (by omega))
 obtain ⟨ad',e,hx⟩:=hcell
 obtain rfl:ad = ad':=by injection e
 clear e
 have hz:=(blk_cell (blk_below hb hB) 0).trans rfl
 have hx1:=(hB.cell (World.block_lt_of_cell? w _ hx)).trans hx
 have hlt1:=hlt ad rfl (by omega)
 have HX:=Aside0.mk hx1
 have HB:=Aside0.mk hB
 have HLT:=Aside0.mk hlt1
 have hs1:=hB.size
 have HS:=Aside0.mk hs1
 have hu28:=Try.underlying28
 clear hr hx hx1 hB hlt hlt1 hb hs1
 have b1:(0 ≤ (s:Int)) = True:=eq_true (by omega)
 have b2:(s:Int) + 1 ≤ (c0:Int):=by omega
 have b3:s + 1 ≤ c0:=by omega
 show Calls Try.prog 61 #[.int .i64 (s:Int),.pointer (some ⟨g1,0,none⟩)] W _
 go_enter Try.func61,Try.ntmps61
 go_wp2
 go_ret
 refine ⟨some (ad.add s),c0 - s,rfl,by simp [marks1];omega,⟨rfl,by simp [marks1],fun _=>⟨ad.add s,rfl,fun j p hj=>?_⟩⟩,fun ad' e=>?_,Below.refl _ _⟩
 ·obtain ⟨rfl,rfl⟩:j = 0∧p = rd m s:=by
   cases j with
   | zero=>simp [marks1] at hj;exact ⟨rfl,hj.symm⟩
   | succ j=>simp [marks1] at hj
  refine ⟨[.int .i64 (rd m s)],rfl,rfl,fun i u hu=>?_⟩
  obtain ⟨rfl,rfl⟩:i = 0∧u = .int .i64 (rd m s):=by
   cases i with
   | zero=>simp at hu;exact ⟨rfl,hu.symm⟩
   | succ i=>simp at hu
  have h1:=HX.out
  rw [Int.toNat_natCast] at h1
  have h2:(ad.add s).add (0 * (Kd.int .i64).sz + 0) = ad.add s:=by simp [Addr.add]
  rw [h2]
  exact h1
 ·obtain rfl:ad.add s = ad':=by injection e
  have h3:(ad.add s).block = ad.block:=by unfold Addr.add;split <;> rfl
  rw [h3]
  have:=HLT.out
  have:=HS.out
  exact ⟨by omega,.inl (by omega)⟩
set_option maxHeartbeats 8000000 in
set_option maxRecDepth 100000 in
theorem num_sums (g1 g3:Nat) (A0:Option Addr) (c0:Nat) (m:List Int) (A1:Option Addr) (c1:Nat) (ws:List (List Int)) (A2:Option Addr) (c2:Nat) (cl:List Int) (w:World) (hr0:Kd.C (Kd.int .i64) w A0 m.length m) (hc0:m.length ≤ c0) (hr1:Kd.C (Kd.slice 3 (Kd.int .i64)) w A1 ws.length ws) (hc1:ws.length ≤ c1)
  (hr2:Kd.C (Kd.int .i64) w A2 cl.length cl) (hc2:cl.length ≤ c2) (hrs:Rows ws m.length) (hin:InR cl m.length) (hb:w.heap[g1]? = some (.cells #[.slice A0 m.length c0,.slice A1 ws.length c1] 28 (0,0))) (hb3:w.heap[g3]? = some (.cells #[.slice A2 cl.length c2] 22 (0,0))) :
  Num 62 #[.pointer (some ⟨g1,0,none⟩),.pointer (some ⟨g3,0,none⟩)] m.length (sumsP ws cl) w:=by
 intro s W hs hB
 obtain ⟨k,hk⟩:=(sums_ev (m:=m) hrs hin hs).rounds
 have hcall:=fun W' (hB':Below w.heap.size w W')=>impl_sums.calls k A0 c0 m A1 c1 ws A2 c2 cl (s:Int) (sumsP ws cl s) W' (Kd.C_below hr0 hB') hc0 (Kd.C_below hr1 hB') hc1 (Kd.C_below hr2 hB') hc2 hk
 have HC:=Aside0.mk hcall
 have hz0:W.cell? ⟨g1,0,none⟩ = some (.slice A0 m.length c0):=(blk_cell (blk_below hb hB) 0).trans rfl
 have hz1:W.cell? ⟨g1,1,none⟩ = some (.slice A1 ws.length c1):=(blk_cell (blk_below hb hB) 1).trans rfl
 have hz3:W.cell? ⟨g3,0,none⟩ = some (.slice A2 cl.length c2):=(blk_cell (blk_below hb3 hB) 0).trans rfl
 have HB:=Aside0.mk hB
 have hu28:=Try.underlying28
 clear hr0 hc0 hr1 hc1 hr2 hc2 hrs hin hb hb3 hk hcall hB
 show Calls Try.prog 62 #[.int .i64 (s:Int),.pointer (some ⟨g1,0,none⟩),.pointer (some ⟨g3,0,none⟩)] W _
 go_enter Try.func62,Try.ntmps62
 go_wp2_with (go_at_call 47;(with_reducible refine (HC.out _ HB.out).mono ?_);rintro e w' ⟨v,rfl,ho,hb'⟩)
 go_ret
 obtain ⟨A,c,rfl⟩:=Kd.R_slice ho
 obtain ⟨_,h1,h2⟩:=Kd.R_reads' ho
 exact ⟨A,c,rfl,h1,h2,fun ad e=>by
  have h3:=(Kd.R_bound ho).1 ad.block (by rw [e];rfl)
  exact ⟨h3.2.2.1,.inr h3.2.1⟩,hb'⟩
set_option maxHeartbeats 8000000 in
set_option maxRecDepth 100000 in
theorem impl_chanceClasses.calls (k:Nat) (A0_0:Option Addr) (c0_0:Nat) (l0_0:List Int) (A0_1:Option Addr) (c0_1:Nat) (l0_1:List (List Int)) (r:List Int) (w:World) (hr0_0:Kd.C (Kd.int .i64) w A0_0 l0_0.length l0_0) (hc0_0:l0_0.length ≤ c0_0) (hr0_1:Kd.C (Kd.slice 3 (Kd.int .i64)) w A0_1 l0_1.length l0_1) (hc0_1:l0_1.length ≤ c0_1) (h:impl_chanceClasses.f k l0_0 l0_1 = some r) :
  Calls Try.prog 46 #[.agg #[.slice A0_0 l0_0.length c0_0,.slice A0_1 l0_1.length c0_1]] w fun e w'=>∃ v0_:Value,e = .returned (v0_)∧Kd.R (Kd.int .i64) 3 w' w.heap.size (fun _=>True) v0_ r∧Below w.heap.size w w':=by
 have hu28:=Try.underlying28
 unfold impl_chanceClasses.f at h
 by_cases hg:goodCh l0_0 l0_1
 case neg=>rw [if_neg hg] at h;exact absurd h (by simp)
 rw [if_pos hg] at h
 have hrs:=good_rows hg
 have hn:=hrs.le
 have H:=Aside0.mk h
 have HRS:=Aside0.mk hrs
 have HR0:=Aside0.mk hr0_0
 have HR1:=Aside0.mk hr0_1
 have HC0:=Aside0.mk hc0_0
 have HC1:=Aside0.mk hc0_1
 have HLT:=Aside0.mk (show ∀ ad,A0_0 = some ad → 0 < l0_0.length → ad.block < w.heap.size from fun ad e hp=>by
  obtain ⟨ad',e',hx⟩:=Kd.at_int hr0_0 0 (by omega) (by omega)
  obtain rfl:ad = ad':=by rw [e] at e';injection e'
  have:=World.block_lt_of_cell? w _ hx
  have h3:(ad.add (Int.toNat 0)).block = ad.block:=by unfold Addr.add;split <;> rfl
  rw [h3] at this
  exact this)
 have HB:=Aside0.mk (Below.refl w.heap.size w)
 clear h hrs hr0_0 hr0_1 hc0_0 hc0_1 hg
 go_enter Try.func46,Try.ntmps46
 go_wp2_with (first | ((with_reducible refine gate_dst (N:=1) rfl ?_);refine box_event ?hg (N:=1) ?hd (cs:=#[.slice A0_0 l0_0.length c0_0,.slice A0_1 l0_1.length c0_1]) (t:=28) ?hr ?_;(case hd=>rfl);(case hg=>rfl);(case hr=>first | (go_simp;done) | (go_simp;rfl));intro g1 hg w1 hbox hb;have n0_:=Aside0.mk (below_step HB.out hb);have BK:=Aside0.mk hbox;clear HB;have HB:=n0_;clear n0_ hbox hg hb;have hz0:w1.cell? ⟨g1,0,none⟩ = some (.slice A0_0 l0_0.length c0_0):=(blk_cell BK.out 0).trans rfl) | ((with_reducible refine gate_dst (N:=8) rfl ?_);refine Kd.R_make (Kd.int .i64) _ 3 rfl (N:=8) rfl 22 _ _ rfl (l0_0.length:Int) rfl rfl Try.underlying22 (.int .i64 0) 8 info3 rfl (by decide) (by omega) 0 (ok:=fun _=>True) (okp:=fun _=>True) rfl (fun _ hk=>hk) trivial (by omega) (by simp;omega) (Below.refl _ _) (Nat.le_refl _) ?_;intro v8 w2 ho hb hg_ hnew_;clear hg_ hnew_;have HO:=Aside0.mk ho;have n0_:=Aside0.mk (below_step HB.out hb);have n1_:=Aside0.mk (blk_below BK.out hb);clear HB BK hz0;have HB:=n0_;have BK:=n1_;clear n0_ n1_ ho hb;obtain ⟨A8,c8,e8⟩:=Kd.R_slice HO.out;subst e8;obtain ⟨zs,hzs⟩:∃ zs:List Int,zs = List.replicate l0_0.length 0:=⟨_,rfl⟩;have hzl:zs.length = l0_0.length:=(by rw [hzs];simp);have hro:Kd.C (Kd.int .i64) w2 A8 zs.length zs:=(by have:=(Kd.R_reads' HO.out).2.2;rw [hzs];simpa using this);have hc8:zs.length ≤ c8:=(by have:=(Kd.R_reads' HO.out).2.1;rw [hzs];simpa using this);have hP:=parted_calls 61 #[.pointer (some ⟨g1,0,none⟩)] (fun args w=>by rfl) (marks1 l0_0) A8 c8 zs w2 (by rw [hzl];exact num_marks g1 A0_0 c0_0 l0_0 _ w2 (Kd.C_below HR0.out HB.out) HC0.out hn BK.out (fun ad e hp=>Nat.lt_of_lt_of_le (HLT.out ad e hp) HB.out.size)) hro hc8 (by omega) (fun s _=>by simp [marks1]);rw [hzl,show partP zs (marks1 l0_0) = ccStart l0_0 from by rw [hzs];rfl] at hP;have HP:=Aside0.mk hP;clear hP hro hc8 hzl hzs HO) | (go_at_call 60;(with_reducible refine (HP.out).mono ?_);rintro e w3 ⟨v9,rfl,ho,hb⟩;have HO:=Aside0.mk (Kd.R_lower ho HB.out.size);have n0_:=Aside0.mk (below_step HB.out hb);have n1_:=Aside0.mk (blk_below BK.out hb);clear HB BK HP;have HB:=n0_;have BK:=n1_;clear n0_ n1_ ho hb;obtain ⟨A9,c9,e9⟩:=Kd.R_slice HO.out;subst e9) | ((with_reducible refine gate_dst (N:=3) rfl ?_);refine box_event ?hg3 (N:=3) ?hd3 (cs:=#[.slice none 0 0]) (t:=22) ?hr3 ?_;(case hd3=>rfl);(case hg3=>rfl);(case hr3=>first | (go_simp;done) | (go_simp;rfl));intro g3 hg w4 hbox hb;have n0_:=Aside0.mk (below_step HB.out hb);have n1_:=Aside0.mk (blk_below BK.out hb);have n2_:=Aside0.mk (Kd.R_below HO.out hb);have BK3:=Aside0.mk hbox;have GE:=Aside0.mk (show w.heap.size ≤ g3 from (by rw [hg];exact below_size HB.out));have HG13:=Aside0.mk (show g1 ≠ g3 from (by have:=blk_lt BK.out;omega));clear HB BK HO;have HB:=n0_;have BK:=n1_;have HO:=n2_;clear n0_ n1_ n2_ hbox hg hb;have hz3:w4.cell? ⟨g3,0,none⟩ = some (.slice none 0 0):=(blk_cell BK3.out 0).trans rfl;have hf3:=blk_frozen BK3.out 0) | ((with_reducible refine gate_store (t:=22) (p:=3) rfl ?_);refine store_event (t:=22) (p:=3) (v:=?vo1_) (w1:=(w4.setCell ⟨g3,0,none⟩ (.slice A9 (ccStart l0_0).length c9))) ?hg4 ?ho4 ?hn4 ?hr4 ?_;(case ho4=>rfl);(case hg4=>rfl);(case hn4=>rfl);(case hr4=>first | (go_simp;done) | (go_simp;rfl));intro w5 hw;have n0_:=Aside0.mk (show Below w.heap.size w w5 from (by rw [hw];exact below_set HB.out GE.out));have n1_:=Aside0.mk (show w5.heap[g1]? = some (.cells #[.slice A0_0 l0_0.length c0_0,.slice A0_1 l0_1.length c0_1] 28 (0,0)) from (by rw [hw];exact blk_far BK.out HG13.out _));have n2_:=Aside0.mk (show Kd.R (Kd.int .i64) 3 w5 w.heap.size (fun _=>True) (.slice A9 (ccStart l0_0).length c9) (ccStart l0_0) from (by rw [hw];exact Kd.R_set HO.out BK3.out (by decide) 0 _));have n3_:=Aside0.mk (show w5.heap[g3]? = some (.cells #[.slice A9 (ccStart l0_0).length c9] 22 (0,0)) from (by rw [hw];exact blk_set BK3.out 0 _));clear HB BK HO BK3 hz3 hf3 hw;have HB:=n0_;have BK:=n1_;have HO:=n2_;have BK3:=n3_;clear n0_ n1_ n2_ n3_))
 have HI:=Aside0.mk (show InR (ccStart l0_0) l0_0.length from by have:=partP_in (List.replicate l0_0.length 0) (marks1 l0_0);rw [List.length_replicate] at this;exact this)
 (try go_simp)
 go_loopg [4] k (fun kq v4 W=>∃ (cl:List Int) (A:Option Addr) (c:Nat),Aside0 (ccL l0_1 kq cl = some r)∧Aside0 (kq ≤ k)∧Aside0 (InR cl l0_0.length)∧Aside0 (W.heap[g1]? = some (.cells #[.slice A0_0 l0_0.length c0_0,.slice A0_1 l0_1.length c0_1] 28 (0,0)))∧Aside0 (W.heap[g3]? = some (.cells #[.slice A cl.length c] 22 (0,0)))∧Aside0 (Kd.R (Kd.int .i64) 3 W w.heap.size (fun _=>True) (.slice A cl.length c) cl)∧Aside0 (Below w.heap.size w W))
 case atStart=>exact ⟨ccStart l0_0,A9,c9,H,⟨Nat.le_refl _⟩,HI,BK,BK3,HO,HB⟩
 case round =>
  clear H HI BK BK3 HO HB
  obtain ⟨cl,A,c,H,HK,HI,BK,BK3,HO,HB⟩:=hrel
  cases gk with
  | zero=>exact absurd H.out (by simp [ccL])
  | succ k1 =>
   have h:=H.out
   rw [ccL] at h
   have hcl:=HI.out.len
   have hro:=(Kd.R_reads' HO.out).2.2
   have hcc:=(Kd.R_reads' HO.out).2.1
   have hP:=parted_calls 62 #[.pointer (some ⟨g1,0,none⟩),.pointer (some ⟨g3,0,none⟩)] (fun args w=>by rfl) (sumsP l0_1 cl) A c cl wr (by rw [hcl];exact num_sums g1 g3 A0_0 c0_0 l0_0 A0_1 c0_1 l0_1 A c cl wr (Kd.C_below HR0.out HB.out) HC0.out (Kd.C_below HR1.out HB.out) HC1.out hro hcc HRS.out HI.out BK.out BK3.out) hro hcc (by omega) (fun s _=>by rw [sumsP_length];omega)
   obtain ⟨nx,hnx⟩:∃ nx,nx = partP cl (sumsP l0_1 cl):=⟨_,rfl⟩
   rw [← hnx] at hP h
   have hnl:nx.length = cl.length:=by rw [hnx,partP_length]
   have HIN:=Aside0.mk (show InR nx l0_0.length from by rw [hnx];have:=partP_in cl (sumsP l0_1 cl);rw [hcl] at this;exact this)
   have HP:=Aside0.mk hP
   have HNL:=Aside0.mk hnl
   have HCL:=Aside0.mk hcl
   have hz3:wr.cell? ⟨g3,0,none⟩ = some (.slice A cl.length c):=(blk_cell BK3.out 0).trans rfl
   have HG13:=HG13
   clear hP hnx hnl hro hcc hcl H
   by_cases e:nx = cl
   ·rw [if_pos e] at h
    obtain rfl:=Option.some.inj h
    have hb0:decide (nx = cl) = true:=decide_eq_true e
    have HE:=Aside0.mk hb0
    clear h hb0 e
    go_wp2_with (first | (go_at_call 60;(with_reducible refine (HP.out).mono ?_);rintro e w6 ⟨v6,rfl,ho,hb⟩;have HN:=Aside0.mk (Kd.R_lower ho HB.out.size);have n0_:=Aside0.mk (below_step HB.out hb);have n1_:=Aside0.mk (Kd.R_below HO.out hb);have n2_:=Aside0.mk (blk_below BK3.out hb);clear HB HO HP BK3 hz3;have HB:=n0_;have HO:=n1_;have BK3:=n2_;clear n0_ n1_ n2_ ho hb;obtain ⟨A6,c6,e6⟩:=Kd.R_slice HN.out;subst e6;have hz3:w6.cell? ⟨g3,0,none⟩ = some (.slice A cl.length c):=(blk_cell BK3.out 0).trans rfl) | (go_at_call 63;(with_reducible refine (equal_calls A6 c6 nx A c cl _ (Kd.R_reads' HN.out).2.2 (Kd.R_reads' HN.out).2.1 (Kd.R_reads' HO.out).2.2 (Kd.R_reads' HO.out).2.1 (by have:=HNL.out;have:=HCL.out;omega)).mono ?_);rw [HE.out];rintro e w' ⟨rfl,⟨nd,rfl⟩⟩))
    go_ret
    exact ⟨_,rfl,Kd.R_below HN.out (by repeat (first | exact Below.refl _ _ | apply pw_below_drewN | apply below_drew1)),below_step HB.out (by repeat (first | exact Below.refl _ _ | apply pw_below_drewN | apply below_drew1))⟩
   ·rw [if_neg e] at h
    have HH:=Aside0.mk h
    have hb0:decide (nx = cl) = false:=decide_eq_false e
    have HE:=Aside0.mk hb0
    clear h hb0 e
    go_wp2_with (first | (go_at_call 60;(with_reducible refine (HP.out).mono ?_);rintro e w6 ⟨v6,rfl,ho,hb⟩;have HN:=Aside0.mk (Kd.R_lower ho HB.out.size);have n0_:=Aside0.mk (below_step HB.out hb);have n1_:=Aside0.mk (Kd.R_below HO.out hb);have n2_:=Aside0.mk (blk_below BK3.out hb);have n3_:=Aside0.mk (blk_below BK.out hb);clear HB HO HP BK3 BK hz3;have HB:=n0_;have HO:=n1_;have BK3:=n2_;have BK:=n3_;clear n0_ n1_ n2_ n3_ ho hb;obtain ⟨A6,c6,e6⟩:=Kd.R_slice HN.out;subst e6;have hz3:w6.cell? ⟨g3,0,none⟩ = some (.slice A cl.length c):=(blk_cell BK3.out 0).trans rfl;have hf3:=blk_frozen BK3.out 0) | (go_at_call 63;(with_reducible refine (equal_calls A6 c6 nx A c cl _ (Kd.R_reads' HN.out).2.2 (Kd.R_reads' HN.out).2.1 (Kd.R_reads' HO.out).2.2 (Kd.R_reads' HO.out).2.1 (by have:=HNL.out;have:=HCL.out;omega)).mono ?_);rw [HE.out];rintro e w7 ⟨rfl,hd⟩;have hb:=Drawn0.below hd;clear hd;have n0_:=Aside0.mk (below_step HB.out hb);have n1_:=Aside0.mk (Kd.R_below HN.out hb);have n2_:=Aside0.mk (blk_below BK3.out hb);have n3_:=Aside0.mk (blk_below BK.out hb);clear HB HN BK3 BK hz3 hf3 HO;have HB:=n0_;have HN:=n1_;have BK3:=n2_;have BK:=n3_;clear n0_ n1_ n2_ n3_ hb;have hz3:w7.cell? ⟨g3,0,none⟩ = some (.slice A cl.length c):=(blk_cell BK3.out 0).trans rfl;have hf3:=blk_frozen BK3.out 0) | ((with_reducible refine gate_store (t:=22) (p:=3) rfl ?_);refine store_event (t:=22) (p:=3) (v:=?vo2_) (w1:=(w7.setCell ⟨g3,0,none⟩ (.slice A6 nx.length c6))) ?hg5 ?ho5 ?hn5 ?hr5 ?_;(case ho5=>rfl);(case hg5=>rfl);(case hn5=>rfl);(case hr5=>first | (go_simp;done) | (go_simp;rfl));intro w8 hw;have n0_:=Aside0.mk (show Below w.heap.size w w8 from (by rw [hw];exact below_set HB.out GE.out));have n1_:=Aside0.mk (show w8.heap[g1]? = some (.cells #[.slice A0_0 l0_0.length c0_0,.slice A0_1 l0_1.length c0_1] 28 (0,0)) from (by rw [hw];exact blk_far BK.out HG13.out _));have n2_:=Aside0.mk (show Kd.R (Kd.int .i64) 3 w8 w.heap.size (fun _=>True) (.slice A6 nx.length c6) nx from (by rw [hw];exact Kd.R_set HN.out BK3.out (by decide) 0 _));have n3_:=Aside0.mk (show w8.heap[g3]? = some (.cells #[.slice A6 nx.length c6] 22 (0,0)) from (by rw [hw];exact blk_set BK3.out 0 _));clear HB BK HN BK3 hz3 hf3 hw;have HB:=n0_;have BK:=n1_;have HN:=n2_;have BK3:=n3_;clear n0_ n1_ n2_ n3_))
    go_roundg k1
    case measure=>have:=HK.out;omega
    case rel=>exact ⟨nx,A6,c6,HH,⟨by have:=HK.out;omega⟩,HIN,BK,BK3,HN,HB⟩
end Go.Proofs.Ytablnoddkllhmaa.P
