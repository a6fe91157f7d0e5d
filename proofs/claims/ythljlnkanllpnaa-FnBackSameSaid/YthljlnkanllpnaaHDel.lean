/- slices.DeleteFunc over events of a row of the call's own, whatever the predicate. No condition. -/
import Derived.Test.YthljlnkanllpnaaHEv
namespace Go.Proofs.Ythljlnkanllpnaa.P
open Go.RowKit Go.Proofs.YthljlnkanllpnaaW.PrintWords Go.Proofs.YthljlnkanllpnaaW.PrintLast Go.Proofs.YthljlnkanllpnaaW.PrintMore Go.Proofs.Ythljlnkanllpnaa.Any
set_option linter.unusedVariables false
set_option linter.unusedSimpArgs false
theorem idx_all {α:Type} (p:α → Bool):∀ (xs:List α) (o:Nat),∃ r:Int,idxOf (fun e=>some (p e)) xs (o:Int) = some r∧((r = -1∧∀ x ∈ xs,p x = false) ∨ ∃ i:Nat,r = ((o + i:Nat):Int)∧∃ h:i < xs.length,p xs[i] = true∧∀ j:Nat,(hj:j < i) → p (xs[j]'(by omega)) = false)
 | [],o=>⟨-1,rfl,.inl ⟨rfl,fun x hx=>by cases hx⟩⟩
 | x :: xs,o=>by
  cases hx:p x with
  | true=>exact ⟨o,by simp [idxOf,hx],.inr ⟨0,by simp,by simp,by simpa using hx,fun j hj=>by omega⟩⟩
  | false =>
   obtain ⟨r,hr,h⟩:=idx_all p xs (o + 1)
   refine ⟨r,by simp only [idxOf,hx,Option.bind_some];rw [if_neg (by simp)];exact hr,?_⟩
   rcases h with ⟨h1,h2⟩ | ⟨i,h1,h2,h3,h4⟩
   ·exact .inl ⟨h1,fun y hy=>by rcases List.mem_cons.1 hy with rfl | hy;exact hx;exact h2 y hy⟩
   ·refine .inr ⟨i + 1,by rw [h1];congr 1;omega,by simp;omega,by simpa using h3,fun j hj=>?_⟩
    cases j with
    | zero=>simpa using hx
    | succ j=>simpa using h4 j (by omega)
structure DelAt (p:S32 → Bool) (xs ys:List S32) (a j:Nat):Prop where
 len:ys.length = xs.length
 lt:a < j
 le:j ≤ xs.length
 front:ys.take a = (xs.take j).filter (fun e=>!p e)
 back:ys.drop j = xs.drop j
theorem DelAt.get {p:S32 → Bool} {xs ys:List S32} {a j:Nat} (h:DelAt p xs ys a j) (hj:j < xs.length):ys[j]'(by rw [h.len];exact hj) = xs[j]:=by
 have h1:=congrArg (fun l=>l[0]?) h.back
 simp only [List.getElem?_drop,Nat.add_zero] at h1
 rw [List.getElem?_eq_getElem (by rw [h.len];exact hj),List.getElem?_eq_getElem hj] at h1
 exact Option.some.inj h1
theorem DelAt.start {p:S32 → Bool} {xs:List S32} {i:Nat} (h:i < xs.length) (h1:p xs[i] = true) (h2:∀ j:Nat,(hj:j < i) → p (xs[j]'(by omega)) = false):DelAt p xs xs i (i + 1):=by
 refine ⟨rfl,by omega,by omega,?_,rfl⟩
 rw [List.take_succ_eq_append_getElem h,List.filter_append]
 have e1:(xs.take i).filter (fun e=>!p e) = xs.take i:=by
  apply List.filter_eq_self.2
  intro x hx
  obtain ⟨j,hj,rfl⟩:=List.mem_iff_getElem.1 hx
  have hj':j < i:=by simp at hj;omega
  rw [List.getElem_take]
  simp [h2 j hj']
 rw [e1]
 simp [h1]
theorem DelAt.drop {p:S32 → Bool} {xs ys:List S32} {a j:Nat} (h:DelAt p xs ys a j) (hj:j < xs.length) (hp:p xs[j] = true):DelAt p xs ys a (j + 1):=by
 refine ⟨h.len,by have:=h.lt;omega,by omega,?_,?_⟩
 ·rw [List.take_succ_eq_append_getElem hj,List.filter_append,h.front]
  simp [hp]
 ·have:=congrArg (List.drop 1) h.back
  simpa using this
theorem DelAt.keep {p:S32 → Bool} {xs ys:List S32} {a j:Nat} (h:DelAt p xs ys a j) (hj:j < xs.length) (hp:p xs[j] = false):DelAt p xs (ys.set a xs[j]) (a + 1) (j + 1):=by
 have hl:=h.len
 have hlt:=h.lt
 refine ⟨by rw [List.length_set];exact h.len,by omega,by omega,?_,?_⟩
 ·rw [List.take_succ_eq_append_getElem hj,List.filter_append,← h.front,List.take_succ_eq_append_getElem (by rw [List.length_set];omega),List.getElem_set_self,List.take_set_of_le (Nat.le_refl a)]
  simp [hp]
 ·rw [List.drop_set_of_lt (by omega)]
  have:=congrArg (List.drop 1) h.back
  simpa using this
theorem run_clearEs (w:World) (g cap m cnt:Nat) (ty:TypeId) (c2:Array Value) (hc:w.heap[g]? = some (.cells c2 32 (0,0))) (hs:c2.size = cap * 2) (hm:m + cnt ≤ cap) (h0:0 < cnt) :
  ∃ zs:List Value,zs.length = cnt * 2∧∀ c,(Builtin.clear_ #[24] ty #[.slice (some ⟨g,m * 2,none⟩) cnt c]).run Try.prog w = .ok (.tuple #[]) (w.setRow g (c2.toList.take (m * 2) ++ zs ++ c2.toList.drop (m * 2 + cnt * 2)).toArray):=by
 have hz:(zeroValue 32).run Try.prog w = .ok (.agg #[.int .i64 0,.int .i64 0]) w:=by
  obtain ⟨i0,hi,hzz⟩:=Option.map_eq_some_iff.1 info32
  simp only [Prod.mk.injEq] at hzz
  simp [zeroValue,typeInfo,hi,hzz.1]
 obtain ⟨zs,hzs⟩:∃ zs,zs = (Builtin.zeroCells (Value.agg #[.int .i64 0,.int .i64 0]).cells cnt).toList:=⟨_,rfl⟩
 have hcl:(Value.agg #[.int .i64 0,.int .i64 0]).cells = #[Value.int .i64 0,Value.int .i64 0]:=by kernel_rfl
 have hlen:zs.length = cnt * 2:=by rw [hzs,Array.length_toList,size_zeroCells,hcl];rfl
 have h1:∀ v ∈ zs,v.oneCell' = true:=by
  intro v hv
  rw [hzs,hcl] at hv
  simp [Builtin.zeroCells] at hv
  obtain ⟨i,_,rfl⟩:=hv
  have:i % 2 = 0 ∨ i % 2 = 1:=by omega
  rcases this with h | h <;> rw [h] <;> rfl
 have hst:=run_storeCells_at (P:=Try.prog) g (m * 2) 32 zs 0 c2 w hc (by rw [hlen];omega) h1
 simp only [Nat.add_zero,hlen] at hst
 refine ⟨zs,hlen,fun c=>?_⟩
 obtain ⟨q,rfl⟩:∃ q,cnt = q + 1:=⟨cnt - 1,by omega⟩
 simp [Builtin.clear_,run_underlying Try.underlying24,hz,← hzs,hst]
set_option maxHeartbeats 8000000 in
set_option maxRecDepth 100000 in
theorem deleteFuncE (gf:Nat) (lb:Array Value) (eg:∀ args w,(callFunc gf args).run Try.prog w = .ok (.enter gf args) w) (p:S32 → Bool) (go cap n:Nat) (xs:List S32) (w0 w:World) (hB:Below w0.heap.size w0 w) (hp:PredE gf lb (fun e=>some (p e)) w0) (hn:xs.length = n)
  (ho:Kd.R k32 32 w w0.heap.size (fun _=>True) (.slice (some ⟨go,0,none⟩) n cap) xs) :
  Calls Try.prog 76 #[.slice (some ⟨go,0,none⟩) n cap,.func (.func gf) #[] lb] w fun e w'=>∃ m:Nat,m = (xs.filter (fun e=>!p e)).length∧e = .returned (.slice (some ⟨go,0,none⟩) m cap)∧Kd.R k32 32 w' w0.heap.size (fun _=>True) (.slice (some ⟨go,0,none⟩) m cap) (xs.filter (fun e=>!p e))∧Below w0.heap.size w0 w':=by
 have hu24:=Try.underlying24
 have hu32:=Try.underlying32
 obtain ⟨hle0,hcap,hC⟩:=Kd.R_reads' ho
 have hmax:n ≤ 9223372036854775807:=by have:=hC.2.1;omega
 obtain ⟨r,hr,hcases⟩:=idx_all p xs 0
 have hpw:PredE gf lb (fun e=>some (p e)) w:=fun x b W hb h=>hp x b W (below_step hB hb) h
 have hidx:=idxE gf lb eg (fun e=>some (p e)) (some ⟨go,0,none⟩) cap xs w hpw hC (by omega) r hr
 rw [hn] at hidx
 have HIDX:=Aside0.mk hidx
 have HO:=Aside0.mk ho
 have HB:=Aside0.mk hB
 have HP:=Aside0.mk hp
 have HN:=Aside0.mk hn
 clear hidx hr hC ho hB hp hn hpw hle0
 rcases hcases with ⟨rfl,hall⟩ | ⟨i,hri,hi,hpi,hbef⟩
 ·go_enter Try.func76,Try.ntmps76
  go_wp2_with (go_at_call 93;(with_reducible refine (HIDX.out).mono ?_);rintro e w1 ⟨rfl,hb⟩)
  go_ret
  have hf:xs.filter (fun e=>!p e) = xs:=List.filter_eq_self.2 (fun x hx=>by simp [hall x hx])
  exact ⟨n,by rw [hf];exact HN.out.symm,rfl,by rw [hf];exact Kd.R_below HO.out hb,below_step HB.out hb⟩
 ·obtain rfl:r = (i:Int):=by rw [hri];congr 1;omega
  have HS:=Aside0.mk (DelAt.start hi hpi hbef)
  have b0:((i:Int) == -1) = false:=beq_eq_false_iff_ne.2 (by omega)
  have b1:i + 1 ≤ n:=by have:=HN.out;omega
  have b2:(i:Int) + 1 ≤ (n:Int):=by omega
  clear hri hi hpi hbef
  go_enter Try.func76,Try.ntmps76
  go_wp2_with (go_at_call 93;(with_reducible refine (HIDX.out).mono ?_);rintro e w1 ⟨rfl,hb⟩;have n0_:=Aside0.mk (Kd.R_below HO.out hb);have n1_:=Aside0.mk (below_step HB.out hb);clear HO HB HIDX hb;have HO:=n0_;have HB:=n1_;clear n0_ n1_)
  go_loopg [5,6] n (fun g5 v5 v6 W=>∃ (a j:Nat) (ys:List S32),n - j ≤ g5∧v5 = .int .i64 (a:Int)∧v6 = .int .i64 (j:Int)∧Aside0 (DelAt p xs ys a j)∧Aside0 (Kd.R k32 32 W w0.heap.size (fun _=>True) (.slice (some ⟨go,0,none⟩) n cap) ys)∧Aside0 (Below w0.heap.size w0 W))
  case atStart=>exact ⟨i,i + 1,xs,by omega,rfl,by go_num,HS,HO,HB⟩
  case round =>
   clear HS HO HB b0 b1 b2
   obtain ⟨a,j,ys,hg5,rfl,rfl,HD,HO,HB⟩:=hrel
   have hnn:=HN.out
   have hle:=HD.out.le
   have hlt:=HD.out.lt
   by_cases hj:j < n
   ·have c1:decide ((j:Int) < (n:Int)) = true:=decide_eq_true (by omega)
    have c2:decide (j < n) = true:=decide_eq_true hj
    have c3:(0 ≤ (j:Int)) = True:=eq_true (by omega)
    have c4:((j:Int) < (n:Int)) = True:=eq_true (by omega)
    have c5:(0 ≤ (a:Int)) = True:=eq_true (by omega)
    have c6:((a:Int) < (n:Int)) = True:=eq_true (by omega)
    have c7:decide (a < n) = true:=decide_eq_true (by omega)
    have c8:a + 1 ≤ n:=by omega
    have c9:(a:Int) + 1 ≤ (n:Int):=by omega
    have hjx:j < xs.length:=by omega
    have hget:=HD.out.get hjx
    have hyl:=HD.out.len
    obtain ⟨ce,hcl,hM,hcc,hfr⟩:=Kd.R_elem HO.out z32 (j:Int) (by omega) (by omega)
    obtain rfl:=k32_openM hM
    have hx0:wr.cell? ⟨go,j * 2,none⟩ = some (.int .i64 (ys.getD j z32).f0):=hcc 0 _ rfl
    have hx1:wr.cell? ⟨go,j * 2 + 1,none⟩ = some (.int .i64 (ys.getD j z32).f1):=hcc 1 _ rfl
    have hyj:ys.getD j z32 = xs[j]'hjx:=by rw [List.getD_eq_getElem?_getD,List.getElem?_eq_getElem (by omega)];exact hget
    obtain ⟨y,hy⟩:∃ y,y = xs[j]'hjx:=⟨_,rfl⟩
    rw [hyj,← hy] at hx0 hx1
    have HPY:=Aside0.mk (show ∀ W,Below w0.heap.size w0 W → Calls Try.prog gf (#[.agg #[.int .i64 y.f0,.int .i64 y.f1]] ++ lb) W fun e w'=>e = .returned (.bool (p y))∧Below W.heap.size W w' from fun W hb=>HP.out y (p y) W hb rfl)
    have HY:=Aside0.mk hy
    obtain ⟨y0,y1⟩:=y
    have hbase:w0.heap.size ≤ go:=Kd.R_base HO.out go (by simp [Value.ownBlock])
    have hgl:go < wr.heap.size:=Kd.R_lt HO.out go (by simp [Value.ownBlock])
    have GB:=Aside0.mk hbase
    have GL:=Aside0.mk hgl
    have HNN:=Aside0.mk hnn
    have HLT:=Aside0.mk hlt
    have HYL:=Aside0.mk hyl
    clear hcl hM hcc hfr hyj hget hy hbase hgl hnn hle hlt hyl
    dsimp only at HPY hx0 hx1
    cases hpy:p ⟨y0,y1⟩ with
    | true =>
     go_wp2_with (first | ((with_reducible refine gate_dst (N:=7) rfl ?_);refine box_event ?hgA (N:=7) ?hdA (cs:=#[.int .i64 0,.int .i64 0]) (t:=32) ?hrA ?_;(case hdA=>rfl);(case hgA=>rfl);(case hrA=>first | (go_simp;done) | (go_simp;rfl));intro g7 hg w2 hbox hb;have n0_:=Aside0.mk (Kd.R_below HO.out hb);have n1_:=Aside0.mk (below_step HB.out hb);have BK:=Aside0.mk hbox;have GE:=Aside0.mk (show w0.heap.size ≤ g7 from (by rw [hg];exact below_size HB.out));have GN:=Aside0.mk (show go ≠ g7 from (by rw [hg];exact Nat.ne_of_lt GL.out));clear HO HB hb hbox hg hx0 hx1;have HO:=n0_;have HB:=n1_;clear n0_ n1_;have hz0:w2.cell? ⟨g7,0,none⟩ = some (.int .i64 0):=(blk_cell BK.out 0).trans rfl;have hz1:w2.cell? ⟨g7,1,none⟩ = some (.int .i64 0):=(blk_cell BK.out 1).trans rfl;have hf0:=blk_frozen BK.out 0;have hf1:=blk_frozen BK.out 1) | ((with_reducible refine gate_store (t:=32) (p:=7) rfl ?_);refine store_event (t:=32) (p:=7) (v:=?voA) (w1:=((w2.setCell ⟨g7,0,none⟩ (.int .i64 y0)).setCell ⟨g7,1,none⟩ (.int .i64 y1))) ?hgsA ?hosA ?hnsA ?hrsA ?_;(case hosA=>rfl);(case hgsA=>rfl);(case hnsA=>rfl);(case hrsA=>first | (go_simp;done) | (go_simp;rfl));intro w3 hw;have n0_:=Aside0.mk (show Kd.R k32 32 w3 w0.heap.size (fun _=>True) (.slice (some ⟨go,0,none⟩) n cap) ys from (by rw [hw];exact Kd.R_mono (Kd.R_step (Kd.R_tight rfl HO.out) (fun k hk _=>(Below.heap_setCell _ ⟨g7,1,none⟩ _ k (by have h_:some k = some go:=hk;injection h_ with h_;rw [h_];exact GN.out)).trans (Below.heap_setCell _ ⟨g7,0,none⟩ _ k (by have h_:some k = some go:=hk;injection h_ with h_;rw [h_];exact GN.out)))) (fun _ _=>trivial)));have n1_:=Aside0.mk (show Below w0.heap.size w0 w3 from (by rw [hw];exact below_set (below_set HB.out GE.out) GE.out));have n2_:=Aside0.mk (show w3.heap[g7]? = some (.cells #[.int .i64 y0,.int .i64 y1] 32 (0,0)) from (by rw [hw];have:=blk_set (blk_set BK.out 0 (.int .i64 y0)) 1 (.int .i64 y1);simpa using this));clear HO HB BK hw hz0 hz1 hf0 hf1;have HO:=n0_;have HB:=n1_;have BK:=n2_;clear n0_ n1_ n2_;have hz0:w3.cell? ⟨g7,0,none⟩ = some (.int .i64 y0):=(blk_cell BK.out 0).trans rfl;have hz1:w3.cell? ⟨g7,1,none⟩ = some (.int .i64 y1):=(blk_cell BK.out 1).trans rfl) | ((with_reducible refine ((HPY.out w3 HB.out).mono ?_));rw [hpy];rintro e w4 ⟨rfl,hb⟩;have n0_:=Aside0.mk (Kd.R_below HO.out hb);have n1_:=Aside0.mk (below_step HB.out hb);have n2_:=Aside0.mk (blk_below BK.out hb);clear HO HB BK hb hz0 hz1;have HO:=n0_;have HB:=n1_;have BK:=n2_;clear n0_ n1_ n2_;have hz0:w4.cell? ⟨g7,0,none⟩ = some (.int .i64 y0):=(blk_cell BK.out 0).trans rfl;have hz1:w4.cell? ⟨g7,1,none⟩ = some (.int .i64 y1):=(blk_cell BK.out 1).trans rfl))
     go_roundg (n - (j + 1))
     case measure=>omega
     case rel=>exact ⟨a,j + 1,ys,by omega,rfl,by go_num,⟨HD.out.drop (by have:=HNN.out;omega) (by rw [← HY.out];exact hpy)⟩,HO,HB⟩
    | false =>
     go_wp2_with (first | ((with_reducible refine gate_dst (N:=7) rfl ?_);refine box_event ?hgB (N:=7) ?hdB (cs:=#[.int .i64 0,.int .i64 0]) (t:=32) ?hrB ?_;(case hdB=>rfl);(case hgB=>rfl);(case hrB=>first | (go_simp;done) | (go_simp;rfl));intro g7 hg w2 hbox hb;have n0_:=Aside0.mk (Kd.R_below HO.out hb);have n1_:=Aside0.mk (below_step HB.out hb);have BK:=Aside0.mk hbox;have GE:=Aside0.mk (show w0.heap.size ≤ g7 from (by rw [hg];exact below_size HB.out));have GN:=Aside0.mk (show go ≠ g7 from (by rw [hg];exact Nat.ne_of_lt GL.out));clear HO HB hb hbox hg hx0 hx1;have HO:=n0_;have HB:=n1_;clear n0_ n1_;have hz0:w2.cell? ⟨g7,0,none⟩ = some (.int .i64 0):=(blk_cell BK.out 0).trans rfl;have hz1:w2.cell? ⟨g7,1,none⟩ = some (.int .i64 0):=(blk_cell BK.out 1).trans rfl;have hf0:=blk_frozen BK.out 0;have hf1:=blk_frozen BK.out 1) | ((with_reducible refine gate_store (t:=32) (p:=7) rfl ?_);refine store_event (t:=32) (p:=7) (v:=?voB) (w1:=((w2.setCell ⟨g7,0,none⟩ (.int .i64 y0)).setCell ⟨g7,1,none⟩ (.int .i64 y1))) ?hgsB ?hosB ?hnsB ?hrsB ?_;(case hosB=>rfl);(case hgsB=>rfl);(case hnsB=>rfl);(case hrsB=>first | (go_simp;done) | (go_simp;rfl));intro w3 hw;have n0_:=Aside0.mk (show Kd.R k32 32 w3 w0.heap.size (fun _=>True) (.slice (some ⟨go,0,none⟩) n cap) ys from (by rw [hw];exact Kd.R_mono (Kd.R_step (Kd.R_tight rfl HO.out) (fun k hk _=>(Below.heap_setCell _ ⟨g7,1,none⟩ _ k (by have h_:some k = some go:=hk;injection h_ with h_;rw [h_];exact GN.out)).trans (Below.heap_setCell _ ⟨g7,0,none⟩ _ k (by have h_:some k = some go:=hk;injection h_ with h_;rw [h_];exact GN.out)))) (fun _ _=>trivial)));have n1_:=Aside0.mk (show Below w0.heap.size w0 w3 from (by rw [hw];exact below_set (below_set HB.out GE.out) GE.out));have n2_:=Aside0.mk (show w3.heap[g7]? = some (.cells #[.int .i64 y0,.int .i64 y1] 32 (0,0)) from (by rw [hw];have:=blk_set (blk_set BK.out 0 (.int .i64 y0)) 1 (.int .i64 y1);simpa using this));clear HO HB BK hw hz0 hz1 hf0 hf1;have HO:=n0_;have HB:=n1_;have BK:=n2_;clear n0_ n1_ n2_;have hz0:w3.cell? ⟨g7,0,none⟩ = some (.int .i64 y0):=(blk_cell BK.out 0).trans rfl;have hz1:w3.cell? ⟨g7,1,none⟩ = some (.int .i64 y1):=(blk_cell BK.out 1).trans rfl) | ((with_reducible refine ((HPY.out w3 HB.out).mono ?_));rw [hpy];rintro e w4 ⟨rfl,hb⟩;have n0_:=Aside0.mk (Kd.R_below HO.out hb);have n1_:=Aside0.mk (below_step HB.out hb);have n2_:=Aside0.mk (blk_below BK.out hb);clear HO HB BK hb hz0 hz1;have HO:=n0_;have HB:=n1_;have BK:=n2_;clear n0_ n1_ n2_;have hz0:w4.cell? ⟨g7,0,none⟩ = some (.int .i64 y0):=(blk_cell BK.out 0).trans rfl;have hz1:w4.cell? ⟨g7,1,none⟩ = some (.int .i64 y1):=(blk_cell BK.out 1).trans rfl;obtain ⟨ce,hcl,hM,hcc,hfr⟩:=Kd.R_elem HO.out z32 (a:Int) (by omega) (by have:=HLT.out;omega);obtain rfl:=k32_openM hM;have HPS:=Kd.R_seg HO.out (a:Int) (by omega) (by have:=HLT.out;omega) (seg:=[.int .i64 y0,.int .i64 y1]) (j:=0) hcl hcc (show 2 ≤ 2 from by decide) (x':=(⟨y0,y1⟩:S32)) (k32_mkM _ _ _ (⟨y0,y1⟩:S32)) (fun _ hk=>hk);have ha0:=hcc 0 _ rfl;have ha1:=hcc 1 _ rfl;have hfa0:=hfr 0;have hfa1:=hfr 1;simp only [show (k32).sz = 2 from rfl,Nat.add_zero,Int.toNat_natCast] at ha0 ha1 hfa0 hfa1 HPS;clear hcl hM hcc hfr) | ((with_reducible refine gate_store (t:=32) (p:=33) rfl ?_);refine store_event (t:=32) (p:=33) (v:=?voK) (w1:=((w4.setCell ⟨go,a * 2,none⟩ (.int .i64 y0)).setCell ⟨go,a * 2 + 1,none⟩ (.int .i64 y1))) ?hgK ?hoK ?hnK ?hrK ?_;(case hoK=>rfl);(case hgK=>rfl);(case hnK=>rfl);(case hrK=>first | (go_simp;done) | (go_simp;rfl));intro w5 hw;have n0_:=Aside0.mk (show Kd.R k32 32 w5 w0.heap.size (fun _=>True) (.slice (some ⟨go,0,none⟩) n cap) (ys.set a ⟨y0,y1⟩) from (by rw [hw];exact HPS.1));have n1_:=Aside0.mk (show Below w0.heap.size w0 w5 from (by rw [hw];exact below_set (below_set HB.out GB.out) GB.out));clear HO HB HPS hw;have HO:=n0_;have HB:=n1_;clear n0_ n1_))
     go_roundg (n - (j + 1))
     case measure=>omega
     case rel=>exact ⟨a + 1,j + 1,ys.set a ⟨y0,y1⟩,by omega,by go_num,by go_num,⟨by have h:=HD.out.keep (by have:=HNN.out;omega) (by rw [← HY.out];exact hpy);rw [← HY.out] at h;exact h⟩,HO,HB⟩
   ·have c1:decide ((j:Int) < (n:Int)) = false:=decide_eq_false (by omega)
    have c2:decide (j < n) = false:=decide_eq_false hj
    obtain rfl:j = n:=by omega
    have hfront:=HD.out.front
    rw [List.take_of_length_le (l:=xs) (show xs.length ≤ j by omega)] at hfront
    have hyl:=HD.out.len
    have hm:a = (xs.filter (fun e=>!p e)).length:=by rw [← hfront,List.length_take];omega
    have HYLL:=Aside0.mk (show a ≤ ys.length from by omega)
    have HM:=Aside0.mk hm
    have HFR:=Aside0.mk hfront
    obtain ⟨cur,hcur,hcs⟩:∃ c2:Array Value,wr.heap[go]? = some (.cells c2 32 (0,0))∧c2.size = cap * 2:=by
     obtain ⟨inner,hown⟩:=Kd.R_own HO.out
     rcases hown.2 with ⟨h1,_⟩ | ⟨g',cap',cur,h1,_,h2,_,_,h3,_⟩
     ·cases h1
     ·injection h1 with h1 h4 h5
      injection h1 with h1
      injection h1 with h1
      subst h1
      subst h5
      exact ⟨cur,h2,h3⟩
    have p0:(0 ≤ (a:Int)) = True:=eq_true (by omega)
    have p1:(a:Int) ≤ (j:Int):=by omega
    have p2:a ≤ j:=by omega
    have p3:a ≤ cap:=by omega
    have p4:(cap = a) = False:=eq_false (by omega)
    have HA:=Aside0.mk (show a < j from by omega)
    have HCR:=Aside0.mk hcur
    have HCS:=Aside0.mk hcs
    obtain ⟨zs,hzl,hcl⟩:=run_clearEs wr go cap a (j - a) 0 cur hcur hcs (by omega) (by omega)
    clear hcur hcs hm hfront hyl hnn hle hlt
    go_wp2
    go_ret
    have htk:=Kd.R_take HO.out (m:=a) (by have:=HYLL.out;omega)
    rw [HFR.out] at htk
    obtain ⟨f1_,f2_⟩:=R_tailE (news:=(cur.toList.take (a * 2) ++ zs ++ cur.toList.drop (a * 2 + (j - a) * 2)).toArray) htk HCR.out (by have:=HCS.out;have:=HA.out;simp [hzl];omega) (by have:=HCS.out;have:=HA.out;simp;rw [List.take_append_of_le_length (by simp;omega),List.take_take];simp)
    have f3_:=HB.out.grown f2_ (below_size HB.out) (fun k hk=>by injection hk with hk;subst hk;exact Kd.R_base HO.out _ (by simp [Value.ownBlock]))
    simp only [List.append_assoc] at f1_ f2_ f3_
    exact ⟨a,HM.out,rfl,f1_,f3_⟩
end Go.Proofs.Ythljlnkanllpnaa.P
