/- slices.IndexFunc, ContainsFunc, Clone and Delete over events. No condition. -/
import Derived.Test.YthljlnkanllpnaaP0
import Derived.Test.YthljlnkanllpnaaHIdx
import Derived.Lib.SliceRun
namespace Go.Proofs.Ythljlnkanllpnaa.P
open Go.RowKit Go.Proofs.YthljlnkanllpnaaW.PrintWords Go.Proofs.YthljlnkanllpnaaW.PrintLast Go.Proofs.YthljlnkanllpnaaW.PrintMore Go.Proofs.Ythljlnkanllpnaa.Any
set_option linter.unusedVariables false
set_option linter.unusedSimpArgs false
set_option maxHeartbeats 8000000 in
set_option maxRecDepth 100000 in
theorem cloneE (A0:Option Addr) (c0:Nat) (l0:List S32) (w:World) (hr0:Kd.C k32 w A0 l0.length l0) (hc0:l0.length ≤ c0) (hl:l0.length < 8796093022208) :
  Calls Try.prog 70 #[.slice A0 l0.length c0] w fun e w'=>∃ v0_:Value,e = .returned (v0_)∧Kd.R k32 32 w' w.heap.size (fun _=>True) v0_ l0∧Below w.heap.size w w':=by
 have hu24:=Try.underlying24
 have HR:=Aside0.mk hr0
 have HL:=Aside0.mk hl
 clear hr0
 cases A0 with
 | none =>
  have h0:l0 = []:=by
   apply List.eq_nil_of_length_eq_zero
   rcases Nat.eq_zero_or_pos l0.length with h | h
   ·exact h
   ·obtain ⟨ad,e,_⟩:=HR.out.2.2 h
    cases e
  subst h0
  clear HR HL hl
  have he:=fun w=>Lib.run_eql_slice_nil (P:=Try.prog) w 24 32 none 0 c0 0 0 Try.underlying24
  simp only [Option.isNone] at he
  go_enter Try.func70,Try.ntmps70
  go_wp2
  go_ret
  exact ⟨_,rfl,Kd.R_nil _ _ _ _ _,Below.refl _ _⟩
 | some ad =>
  clear hl
  have he:=fun w=>Lib.run_eql_slice_nil (P:=Try.prog) w 24 32 (some ad) l0.length c0 0 0 Try.underlying24
  simp only [Option.isNone] at he
  go_enter Try.func70,Try.ntmps70
  go_wp2_with (first | ((with_reducible refine gate_dst (N:=5) rfl ?_);refine Kd.R_lit k32 _ 32 ?hg (N:=5) ?hd (xs:=([]:List S32)) (inner:=[]) (ok:=fun _=>True) (okp:=fun _=>True) ?hr ?hp (fun _ hk=>hk) trivial (Below.refl _ _) (Nat.le_refl _) (by simp) ?_;(case hd=>rfl);(case hg=>rfl);(case hr=>first | (go_simp;done) | (go_simp;rfl));(case hp=>exact (Reps.none _ _));intro v5 w1 ho hb hg_ hnew_;clear hg_ hnew_;have HO:=Aside0.mk ho;have HB:=Aside0.mk hb;have n0_:=Aside0.mk (Kd.C_below HR.out hb);clear HR ho hb;have HR:=n0_;clear n0_) | ((with_reducible refine gate_builtin (b:=.append) (xs:=#[.tmp 5,.tmp 6]) rfl ?_);at_builtin;refine Kd.R_append_rows k32 (Rr:=k32.K w1) (w0:=w) w.heap.size rfl (.tmp 5) (.tmp 6) 24 32 (.agg #[(.int .i64 0),(.int .i64 0)]) 16 rfl Try.underlying24 info32 rfl (by decide) (by omega) v5 [] l0 (some ad) l0.length c0 (fun _=>True) (fun _=>False) rfl rfl HO.out HR.out (fun x cs hk=>(by obtain rfl:=k32_open hk;exact k32_mkM _ _ _ x)) (fun _ hk=>hk.elim) (fun _ _=>trivial) HB.out (below_size HB.out) (by have:=HL.out;simp;omega) ?_;intro v7 w2 ho hb hg_ hat;have n0_:=Aside0.mk ho;have n1_:=Aside0.mk hb;clear HO HB ho hb hg_ hat;have HO:=n0_;have HB:=n1_;clear n0_ n1_))
  go_ret
  exact ⟨_,rfl,HO.out,HB.out⟩
theorem run_clearE (w:World) (g cap m:Nat) (ty:TypeId) (c2:Array Value) (hc:w.heap[g]? = some (.cells c2 32 (0,0))) (hs:c2.size = cap * 2) (hm:m < cap) :
  (Builtin.clear_ #[24] ty #[.slice (some ⟨g,m * 2,none⟩) 1 (cap - m)]).run Try.prog w = .ok (.tuple #[]) (w.setRow g (c2.toList.take (m * 2) ++ [Value.int .i64 0,Value.int .i64 0] ++ c2.toList.drop (m * 2 + 2)).toArray):=by
 have hz:(zeroValue 32).run Try.prog w = .ok (.agg #[.int .i64 0,.int .i64 0]) w:=by
  obtain ⟨i0,hi,hzz⟩:=Option.map_eq_some_iff.1 info32
  simp only [Prod.mk.injEq] at hzz
  simp [zeroValue,typeInfo,hi,hzz.1]
 have hzc:(Builtin.zeroCells (Value.agg #[.int .i64 0,.int .i64 0]).cells 1).toList = [.int .i64 0,.int .i64 0]:=by kernel_rfl
 have hst:=run_storeCells_at (P:=Try.prog) g (m * 2) 32 [.int .i64 0,.int .i64 0] 0 c2 w hc (by simp;omega) (by intro v hv;simp at hv;rw [hv];rfl)
 simp only [Nat.add_zero,List.length_cons,List.length_nil] at hst
 simp [Builtin.clear_,run_underlying Try.underlying24,hz,hzc,hst]
theorem R_tailE {w:World} {base g cap m:Nat} {ok:Nat → Prop} {xs:List S32} {cur news:Array Value} (h:Kd.R k32 32 w base ok (.slice (some ⟨g,0,none⟩) m cap) xs) (hc:w.heap[g]? = some (.cells cur 32 (0,0))) (hs:news.size = cur.size) (ht:news.toList.take (m * 2) = cur.toList.take (m * 2)) :
  Kd.R k32 32 (w.setRow g news) base ok (.slice (some ⟨g,0,none⟩) m cap) xs∧w.grownBy (w.setRow g news) (some g):=by
 obtain ⟨hok,inner,hown,hrep⟩:=h
 refine ⟨⟨hok,inner,⟨hown.1,?_⟩,hrep.imp_ (fun p c hp=>by obtain rfl:=k32_openM hp;exact k32_mkM _ _ _ p)⟩,⟨rfl,rfl,rfl,by simp,fun k _ hk=>setRow_other w g k _ (fun e=>hk (by rw [e]))⟩⟩
 rcases hown.2 with ⟨h1,_⟩ | ⟨g',cap',cur',h1,hb,hh,hn,hcm,hcs,htk⟩
 ·cases h1
 ·injection h1 with h1 h4 h5
  injection h1 with h1
  injection h1 with h1
  subst h1
  subst h5
  rw [hc] at hh
  injection hh with hh
  injection hh with hh
  subst hh
  refine .inr ⟨g,cap,news,by rw [h4],hb,setRow_heap w g cur _ 32 _ hc,hn,hcm,by rw [hs];exact hcs,?_⟩
  rw [show (k32.sz) = 2 from rfl,← h4] at htk ⊢
  rw [ht]
  exact htk
set_option maxHeartbeats 8000000 in
set_option maxRecDepth 100000 in
theorem deleteE (g cap i m:Nat) (xs:List S32) (ok:Nat → Prop) (w0 w:World) (hB:Below w0.heap.size w0 w) (hm:xs.length = m + 1) (ho:Kd.R k32 32 w w0.heap.size ok (.slice (some ⟨g,0,none⟩) (m + 1) cap) xs) (hi:i < m + 1) :
  Calls Try.prog 69 #[.slice (some ⟨g,0,none⟩) (m + 1) cap,.int .i64 (i:Int),.int .i64 ((i:Int) + 1)] w fun e w'=>e = .returned (.slice (some ⟨g,0,none⟩) m cap)∧Kd.R k32 32 w' w0.heap.size ok (.slice (some ⟨g,0,none⟩) m cap) (xs.eraseIdx i)∧Below w0.heap.size w0 w'∧w.grownBy w' (some g):=by
 have hu24:=Try.underlying24
 obtain ⟨hle,hcap,hC⟩:=Kd.R_reads' ho
 have hmax:m + 1 ≤ 9223372036854775807:=by have:=hC.2.1;omega
 clear hm hle
 have HO:=Aside0.mk ho
 have HB:=Aside0.mk hB
 have b0:(0 ≤ (i:Int)) = True:=eq_true (by omega)
 have b1:(i:Int) + 1 ≤ (m:Int) + 1:=by omega
 have b2:i + 1 ≤ m + 1:=by omega
 have b4:(i ≤ cap) = True:=eq_true (by omega)
 have b5:(0 ≤ (i:Int) + 1) = True:=eq_true (by omega)
 have b3:((i:Int) == (i:Int) + 1) = false:=beq_eq_false_iff_ne.2 (by omega)
 clear ho hB hC
 go_enter Try.func69,Try.ntmps69
 go_wp2
 refine start_ (n:=8) (S:=fun w'=>True) (ds:=[]) #[false,false,false,false,false,false,false,false] (by kernel_rfl) rfl rfl trivial (fun hHeld=>?_)
 have n0_:=Aside0.mk (Kd.R_drew HO.out)
 have n1_:=Aside0.mk (below_drew1 HB.out)
 have n2_:=Aside0.mk (show w.grownBy w.drew (some g) from ⟨rfl,rfl,rfl,Nat.le_refl _,fun _ _ _=>rfl⟩)
 clear HO HB
 have HO:=n0_
 have HB:=n1_
 have HG:=n2_
 clear n0_ n1_ n2_
 generalize w.drew = w1 at HO HB HG hHeld ⊢
 refine pure_ (i:=0) (N:=some 20) (v:=?_) (a':=?_) #[true,false,false,false,false,false,false,false] rfl rfl (by kernel_rfl) (fun _ _ _ h=>h) (Or.inl ⟨by rfl,?_⟩) ?_ ?_
 rotate_left;·intro w';go_simp;with_reducible rfl
 rotate_left;·simp only [Act.put,List.setIfInBounds_toArray,List.set_cons_zero,List.set_cons_succ,i64_w,i32_w];rfl
 refine pure_ (i:=1) (N:=some 21) (v:=?_) (a':=?_) #[true,true,false,false,false,false,false,false] rfl rfl (by kernel_rfl) (fun _ _ _ h=>h) (Or.inl ⟨by rfl,?_⟩) ?_ ?_
 rotate_left;·intro w';go_simp;with_reducible rfl
 rotate_left;·simp only [Act.put,List.setIfInBounds_toArray,List.set_cons_zero,List.set_cons_succ,i64_w,i32_w];rfl
 refine pure_ (i:=2) (N:=some 22) (v:=?_) (a':=?_) #[true,true,true,false,false,false,false,false] rfl rfl (by kernel_rfl) (fun _ _ _ h=>h) (Or.inl ⟨by rfl,?_⟩) ?_ ?_
 rotate_left;·intro w';go_simp;with_reducible rfl
 rotate_left;·simp only [Act.put,List.setIfInBounds_toArray,List.set_cons_zero,List.set_cons_succ,i64_w,i32_w];rfl
 refine pure_ (i:=3) (N:=some 23) (v:=?_) (a':=?_) #[true,true,true,true,false,false,false,false] rfl rfl (by kernel_rfl) (fun _ _ _ h=>h) (Or.inl ⟨by rfl,?_⟩) ?_ ?_
 rotate_left;·intro w';go_simp;with_reducible rfl
 rotate_left;·simp only [Act.put,List.setIfInBounds_toArray,List.set_cons_zero,List.set_cons_succ,i64_w,i32_w];rfl
 refine pure_ (i:=4) (N:=some 24) (v:=?_) (a':=?_) #[true,true,true,true,true,false,false,false] rfl rfl (by kernel_rfl) (fun _ _ _ h=>h) (Or.inl ⟨by rfl,?_⟩) ?_ ?_
 rotate_left;·intro w';go_simp;with_reducible rfl
 rotate_left;·simp only [Act.put,List.setIfInBounds_toArray,List.set_cons_zero,List.set_cons_succ,i64_w,i32_w];rfl
 refine pure_ (i:=5) (N:=some 25) (v:=?_) (a':=?_) #[true,true,true,true,true,true,false,false] rfl rfl (by kernel_rfl) (fun _ _ _ h=>h) (Or.inl ⟨by rfl,?_⟩) ?_ ?_
 rotate_left;·intro w';go_simp;with_reducible rfl
 rotate_left;·simp only [Act.put,List.setIfInBounds_toArray,List.set_cons_zero,List.set_cons_succ,i64_w,i32_w];rfl
 refine one_ (i:=6) (N:=some 26) #[true,true,true,true,true,true,true,false] rfl rfl (by kernel_rfl) (by decide) (fun K hK=>?_)
 refine Kd.R_delete_step k32 (w0:=w0) w0.heap.size (by rfl) (.tmp 22) (.tmp 25) 24 32 rfl Try.underlying24 (by kernel_rfl) (g:=g) (n:=m + 1) (c:=cap) (k:=i) rfl rfl ?hA (by omega) HO.out hi HB.out (below_size HB.out) ?_
 case hA =>
  by_cases e:cap = i + 1
  ·rw [if_pos e,if_pos e]
  ·rw [if_neg e,if_neg e]
   simp [Addr.add,show k32.sz = 2 from rfl]
 intro w2 ho hb hg
 simp only [Nat.add_sub_cancel] at ho
 have n0_:=Aside0.mk ho
 have n1_:=Aside0.mk hb
 have n2_:=Aside0.mk (World.grownBy.trans HG.out hg)
 clear HO HB HG ho hb hg
 have HO:=n0_
 have HB:=n1_
 have HG:=n2_
 clear n0_ n1_ n2_
 refine hK.out _ _ trivial (fun hHeld=>?_)
 clear hK K
 refine norm_ (a':=?_) ?_ ?_
 rotate_left
 ·show Act.put _ (some 26) _ = _
  simp only [Nat.add_sub_cancel,Act.put,List.setIfInBounds_toArray,List.set_cons_zero,List.set_cons_succ,i64_w,i32_w]
  rfl
 refine pure_ (i:=7) (N:=some 0) (v:=?_) (a':=?_) #[true,true,true,true,true,true,true,true] rfl rfl (by kernel_rfl) (fun _ _ _ h=>h) (Or.inl ⟨by rfl,?_⟩) ?_ ?_
 rotate_left;·intro w';go_simp;with_reducible rfl
 rotate_left;·simp only [Act.put,List.setIfInBounds_toArray,List.set_cons_zero,List.set_cons_succ,i64_w,i32_w];rfl
 refine done_ (by kernel_rfl) ?_
 generalize (if cap = i + 1 then (some (⟨g,0,none⟩:Addr)) else some ⟨g,(i + 1) * 2,none⟩) = Aq_
 obtain ⟨c2,hcur,hcs,htk⟩:∃ c2:Array Value,w2.heap[g]? = some (.cells c2 32 (0,0))∧c2.size = cap * 2∧True:=by
  obtain ⟨inner,hown⟩:=Kd.R_own HO.out
  rcases hown.2 with ⟨h1,_⟩ | ⟨g',cap',cur,h1,_,h2,_,_,h3,_⟩
  ·cases h1
  ·injection h1 with h1 h4 h5
   injection h1 with h1
   injection h1 with h1
   subst h1
   subst h5
   exact ⟨cur,h2,h3,trivial⟩
 clear htk
 have hcl:=fun ty=>run_clearE w2 g cap m ty c2 hcur hcs (by omega)
 have HCR:=Aside0.mk hcur
 have HCS:=Aside0.mk hcs
 have d1:(m ≤ cap) = True:=eq_true (by omega)
 have d2:(m + 1 ≤ cap) = True:=eq_true (by omega)
 have d3:(m:Int) ≤ (m:Int) + 1:=by omega
 have d4:(0 ≤ (m:Int)) = True:=eq_true (by omega)
 have d5:cap ≠ m:=by omega
 clear hcur hcs
 go_wp2
 go_ret
 obtain ⟨f1_,f2_⟩:=R_tailE (news:=(c2.toList.take (m * 2) ++ [Value.int .i64 0,Value.int .i64 0] ++ c2.toList.drop (m * 2 + 2)).toArray) HO.out HCR.out (by have:=HCS.out;simp;omega) (by have:=HCS.out;simp;rw [List.take_append_of_le_length (by simp;omega),List.take_take];simp)
 have f3_:=HB.out.grown f2_ (below_size HB.out) (fun k hk=>by injection hk with hk;subst hk;exact Kd.R_base HO.out _ (by simp [Value.ownBlock]))
 simp only [List.append_assoc,List.cons_append,List.nil_append] at f1_ f2_ f3_
 exact ⟨rfl,f1_,f3_,World.grownBy.trans HG.out f2_⟩
end Go.Proofs.Ythljlnkanllpnaa.P
