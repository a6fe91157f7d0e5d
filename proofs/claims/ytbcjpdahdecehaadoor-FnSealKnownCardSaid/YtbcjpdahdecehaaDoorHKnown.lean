/- impl.SealKnown: the sorted texts of all that can be taken apart; what slices.Sort does is asked for (SortCon). -/
import Derived.Test.YtbcjpdahdecehaaDoorHMade
namespace Go.Proofs.YtbcjpdahdecehaaDoor.P
open Go.RowKit Go.Proofs.YtbcjpdahdecehaaDoorW.PrintWords Go.Proofs.YtbcjpdahdecehaaDoorW.PrintLast Go.Proofs.YtbcjpdahdecehaaDoorW.PrintMore
set_option linter.unusedVariables false
set_option linter.unusedSimpArgs false
def sortB (ss:List ByteArray):List ByteArray:=ss.mergeSort fun x y=>decide (x.data.toList ≤ y.data.toList)
def SortCon:Prop:=∀ (base:Nat) (W:World) (A:Option Addr) (c:Nat) (ss:List ByteArray),base ≤ W.heap.size → Kd.R Kd.string 9 W base (fun _=>True) (.slice A ss.length c) ss → ss.length ≤ 100 →
 Calls Tryd.prog 57 #[.slice A ss.length c] W fun e W'=>e = .returned (.tuple #[])∧Kd.R Kd.string 9 W' base (fun _=>True) (.slice A ss.length c) (sortB ss)∧Below base W W'
def IsKnown (l:List S25) (ss:List ByteArray):Prop:=ss.Pairwise (fun a b=>a.data.toList < b.data.toList)∧∀ s,s ∈ ss ↔ ∃ x,Der l x∧s = x.tx
theorem bytes_eq {a b:ByteArray} (h:a.data.toList = b.data.toList):a = b:=by
 cases a;cases b
 congr 1
 exact Array.ext' h
theorem known_one {l:List S25} {ss ts:List ByteArray} (h:IsKnown l ss) (h':IsKnown l ts):ss = ts:=by
 have hp:ss.Perm ts:=by
  have n1:ss.Nodup:=h.1.imp fun hab e=>by rw [e] at hab;exact absurd hab (by simp [List.lt_irrefl])
  have n2:ts.Nodup:=h'.1.imp fun hab e=>by rw [e] at hab;exact absurd hab (by simp [List.lt_irrefl])
  exact (List.perm_ext_iff_of_nodup n1 n2).2 fun s=>(h.2 s).trans (h'.2 s).symm
 exact hp.eq_of_pairwise (fun a b _ _ hab hba=>absurd (List.lt_trans hab hba) (List.lt_irrefl _)) h.1 h'.1
open Classical in
noncomputable def impl_SealKnown.f (l0:List S25):Option (List ByteArray × Bool) :=
 if (∀ y,y ∈ l0 → W25 y) then (if knownOk l0 = true then (if h:∃ ss,IsKnown l0 ss then some (Classical.choose h,true) else none) else some ([],false)) else none
structure StK (w0 W:World) (b r:Nat) (D:DataW Value) (left:Lit → Bool) (cnt:Nat) (v:Value) (L:List ByteArray):Prop where
 st:StA w0 W b D
 rg:W.ranges Tryd.prog 9 RV b r (Go.Maps.size D) D left cnt
 fo:Kd.R Kd.string 9 W w0.heap.size (fun _=>True) v L
 nr:some r ≠ v.ownBlock
 nb:some b ≠ v.ownBlock
 hr:w0.heap.size ≤ r
theorem StK.next {w0 W W':World} {b r cnt cnt':Nat} {D:DataW Value} {left left':Lit → Bool} {v:Value} {L:List ByteArray} (h:StK w0 W b r D left cnt v L) (hr:W'.ranges Tryd.prog 9 RV b r (Go.Maps.size D) D left' cnt') (hg:W.grownBy W' (some r)):StK w0 W' b r D left' cnt' v L :=
 ⟨⟨h.st.hB.grown hg h.st.hB.size (fun k hk=>by injection hk with hk;rw [← hk];exact h.hr),h.st.hb,hr.owns⟩,hr,Kd.R_grown2 h.fo rfl hg (fun k hk=>by injection hk with hk;rw [← hk];exact h.nr),h.nr,h.nb,h.hr⟩
theorem StK.append {w0 W W':World} {b r cnt:Nat} {D:DataW Value} {left:Lit → Bool} {v v1:Value} {L L':List ByteArray} (h:StK w0 W b r D left cnt v L) (hB:Below w0.heap.size w0 W') (hf:Kd.R Kd.string 9 W' w0.heap.size (fun _=>True) v1 L') (hg:W.grownBy W' v.ownBlock)
  (ha:v1.ownBlock = v.ownBlock ∨ ∃ k,v1.ownBlock = some k∧W.heap.size ≤ k):StK w0 W' b r D left cnt v1 L':=by
 have hne:∀ g,g < W.heap.size → some g ≠ v.ownBlock → some g ≠ v1.ownBlock:=by
  intro g hg hn
  rcases ha with ha | ⟨k,hk,hle⟩
  ·rw [ha];exact hn
  ·rw [hk]
   intro e
   injection e with e
   omega
 exact ⟨⟨hB,h.st.hb,h.st.own.kept hg h.nb⟩,h.rg.kept hg h.nb h.nr,hf,hne r h.rg.lt h.nr,hne b h.st.lt h.nb,h.hr⟩
structure Met (D:DataW Value) (left:Lit → Bool) (L:List ByteArray):Prop where
 sub:∀ kl,left kl = true → Go.Maps.has D kl = true
 mem:∀ s,s ∈ L ↔ Go.Maps.has D (.string s.data.toList) = true∧left (.string s.data.toList) = false
 nd:L.Pairwise (fun a b=>a ≠ b)
theorem Met.step {D:DataW Value} {left:Lit → Bool} {L:List ByteArray} (h:Met D left L) {s:ByteArray} (hs:left (.string s.data.toList) = true):Met D (fun z=>left z && !z.sameKey (.string s.data.toList)) (L ++ [s]):=by
 have hself:(Lit.string s.data.toList).sameKey (.string s.data.toList) = true:=by simp [Lit.sameKey]
 refine ⟨fun kl hk=>h.sub kl (by rw [Bool.and_eq_true] at hk;exact hk.1),fun t=>?_,?_⟩
 ·rw [List.mem_append,List.mem_singleton,h.mem]
  by_cases e:t = s
  ·subst e
   exact ⟨fun _=>⟨h.sub _ hs,by rw [hself,Bool.not_true,Bool.and_false]⟩,fun _=>Or.inr rfl⟩
  ·have hn:(Lit.string t.data.toList).sameKey (.string s.data.toList) = false:=Go.Maps.sameKey_ne fun h=>e (bytes_eq (by injection h))
   rw [hn,Bool.not_false,Bool.and_true]
   exact ⟨fun h=>h.resolve_right e,Or.inl⟩
 ·refine List.pairwise_append.2 ⟨h.nd,by simp,fun a ha b hb=>?_⟩
  rw [List.mem_singleton.1 hb]
  intro e
  rw [e,h.mem,hs] at ha
  cases ha.2
theorem known_of {w0:World} {l:List S25} {D:DataW Value} (hM:MapOk w0 l D) (hC:Closed l (Sd D)) (hok:∀ y,y ∈ l → OkT y) {L:List ByteArray} (hL:∀ s,s ∈ L ↔ Go.Maps.has D (.string s.data.toList) = true) (hn:L.Pairwise (fun a b=>a ≠ b)):IsKnown l (sortB L):=by
 have hp:(sortB L).Perm L:=List.mergeSort_perm ..
 have hle:(sortB L).Pairwise (fun a b=>decide (a.data.toList ≤ b.data.toList) = true):=List.pairwise_mergeSort (fun a b c h1 h2=>by
   have h1:=of_decide_eq_true h1
   have h2:=of_decide_eq_true h2
   exact decide_eq_true (List.le_trans h1 h2)) (fun a b=>by
   rw [Bool.or_eq_true,decide_eq_true_eq,decide_eq_true_eq]
   exact List.le_total _ _) L
 have hnd:(sortB L).Pairwise (fun a b=>a ≠ b):=(hp.pairwise_iff (fun h=>h.symm)).2 hn
 refine ⟨List.Pairwise.imp (fun {a b} h=>(List.le_iff_lt_or_eq.1 (of_decide_eq_true h.1)).resolve_right fun e=>h.2 (bytes_eq e)) (hle.and hnd),fun s=>?_⟩
 ·rw [hp.mem_iff,hL]
  constructor
  ·intro h
   obtain ⟨x,_,_,_,_,hd,hk,_⟩:=hM.ent _ h
   exact ⟨x,hd,bytes_eq (by unfold keyL at hk;injection hk)⟩
  ·rintro ⟨x,hd,rfl⟩
   exact (der_all hok hC hd).2
set_option maxHeartbeats 4000000 in
set_option maxRecDepth 100000 in
theorem impl_SealKnown.calls_of (hS:SortCon) (A0:Option Addr) (c0:Nat) (l0:List S25) (r1:List ByteArray) (r2:Bool) (w:World) (hr0:Kd.C k25 w A0 l0.length l0) (hc0:l0.length ≤ c0) (h:impl_SealKnown.f l0 = some (r1,r2)) :
  Calls Tryd.prog 32 #[.slice A0 l0.length c0] w fun e w'=>∃ v0_:Value,e = .returned (.tuple #[v0_,.bool r2])∧Kd.R Kd.string 9 w' w.heap.size (fun _=>True) v0_ r1∧Below w.heap.size w w':=by
 unfold impl_SealKnown.f at h
 split at h
 case isFalse=>cases h
 rename_i hW
 have HA:=aQ (apart_calls A0 c0 l0 w hr0 hc0 hW)
 have HW:=aQ hW
 clear hr0 hc0 hW
 cases hk:knownOk l0 with
 | false =>
  rw [hk,if_neg (by simp)] at h
  cases h
  go_enter Tryd.func32,Tryd.ntmps32
  go_wp2_with (first
   | (go_at_call 54;refine HA.out.mono ?_;rintro e w1 ha;obtain ⟨rfl,hb1⟩:=ha.2 hk;have HB1:=aQ hb1;clear ha hb1)
   | fail)
  go_ret2
  exact ⟨_,rfl,Kd.R_nil ..,HB1.out⟩
 | true =>
  rw [hk,if_pos rfl] at h
  split at h
  case isFalse=>cases h
  rename_i hex
  have hK:=Classical.choose_spec hex
  obtain ⟨rfl,rfl⟩:=Prod.mk.inj (Option.some.inj h)
  generalize Classical.choose hex = ss at *
  clear h hex
  have HK:=aQ hK
  have HN6:=aQ (nodes_known hk)
  clear hK
  go_enter Tryd.func32,Tryd.ntmps32
  go_wp2_with (first
   | (go_at_call 54;refine HA.out.mono ?_;rintro e w1 ha;obtain ⟨b,D,rfl,hS1,hM,hcl⟩:=ha.1 hk;have HS:=aQ hS1;have HM:=aQ hM;have HCl:=aQ hcl;clear ha hS1 hM hcl)
   | ((with_reducible refine gate_dst (N:=15) rfl ?_);refine Kd.R_lit Kd.string (w0:=w) w.heap.size 9 ?hg (N:=15) ?hd (xs:=[]) (inner:=[]) (ok:=fun _=>True) (okp:=fun _=>True) ?hr ?hp (fun _ _=>trivial) trivial HS.out.hB HS.out.hB.size (by simp) ?_;(case hd=>rfl);(case hg=>rfl);(case hr=>first | (go_simp;done) | (go_simp;rfl));(case hp=>exact (Reps.none _ _));intro v34 w34 hF hb34 hg34 hn34;have HS34:=aQ (StA.mk hb34 HS.out.hb (HS.out.own.kept hg34 (by simp)));have HF34:=aQ hF;have HN34:=aQ (lit_ne hn34 HS.out.lt);clear hF hb34 hg34 hn34)
   | (at_range;refine wpList_range_own _ rfl _ 65 rfl 9 25 lawK Tryd.underlying65 RV b (Go.Maps.size D) D rfl HS34.out.own ?_;intro w36 hrg hgr hsz)
   | fail)
  have hr36:w.heap.size ≤ w34.heap.size:=HS34.out.hB.size
  have hb34:b < w34.heap.size:=HS34.out.lt
  have HR:=aQ (StK.mk (own_below_range hrg HS34.out hgr) hrg (Kd.R_grown HF34.out hgr (fun _ _=>by simp)) (fun e=>by have:=Kd.R_lt HF34.out _ e.symm;omega) HN34.out hr36)
  have HZ:=aQ (HM.out.size HS34.out.own)
  clear hrg hgr hsz HS34 HF34 hb34 hr36
  generalize w34.heap.size = r36 at *
  (try simp only [Act.put,List.setIfInBounds_toArray,List.set_cons_zero,List.set_cons_succ])
  go_loopw [6] (fun v6 wr2=>∃ (left:Lit → Bool) (cnt:Nat) (L:List ByteArray),Aside0 (StK w wr2 b r36 D left cnt v6 L)∧Aside0 (L.length + cnt ≤ Go.Maps.size D)∧Aside0 (Met D left L)) (fun _ wr2=>wr2.rangeLeft b r36)
  case atStart=>exact ⟨_,_,[],HR,⟨by simp⟩,⟨⟨fun _ h=>h,fun s=>⟨fun h=>(by cases h),fun h=>(by have h2:=h.2;rw [h.1] at h2;cases h2)⟩,by simp⟩⟩⟩
  case round =>
   obtain ⟨left,cnt,L,HSt,HLe,HMt⟩:=hrel
   go_wp2_with (first
    | (at_next;refine next_seal rfl _ rfl _ rfl _ _ _ _ _ _ rfl HSt.out.rg ?_ ?_)
    | fail)
   ·intro hc0 hl0
    have HL2:=aQ (show ∀ s,s ∈ L ↔ Go.Maps.has D (.string s.data.toList) = true from fun s=>(HMt.out.mem s).trans ⟨fun h=>h.1,fun h=>⟨h,hl0 _⟩⟩)
    have HLb:=aQ (show L.length ≤ 100 by have:=HLe.out;have:=HZ.out;have:=HN6.out;omega)
    obtain ⟨A8,c8,e8⟩:=Kd.R_slice HSt.out.fo
    subst e8
    have HSo:=aQ (hS w.heap.size _ A8 c8 L HSt.out.st.hB.size HSt.out.fo HLb.out)
    clear hc0 hl0
    go_wp2_with (first
     | (go_at_call 57;refine HSo.out.mono ?_;rintro e w57 ⟨rfl,hr57,hb57⟩;have HR57:=aQ hr57;have HB57:=aQ (HSt.out.st.hB.trans hb57);clear hr57 hb57)
     | fail)
    go_ret2
    refine ⟨_,rfl,?_,HB57.out⟩
    rw [known_one HK.out (known_of HM.out HCl.out (knownOkT hk HW.out) HL2.out HMt.out.nd)]
    exact HR57.out
   ·intro s x0 x1 x2 x3 x4 wn cntn hss hls hat hr hlt hgr hsz hen
    have HSn:=aQ (HSt.out.next hr hgr)
    have HMn:=aQ (HMt.out.step hls)
    have HLt:=aQ hlt
    have hL1:(L.length + 1) * 16 ≤ 140737488355328:=by have:=HLe.out;have:=HZ.out;have:=HN6.out;omega
    clear hat hr hgr hsz hlt hls
    go_wp2_with (first
     | (at_builtin;refine Kd.R_append Kd.string (w0:=w) w.heap.size rfl (.tmp 22) (.tmp 24) 48 9 (.string ⟨#[]⟩) 16 rfl Tryd.underlying48 info9 rfl (show 0 < 1 from by decide) (by omega) u6 L s [.string s] (fun _=>True) (fun _=>False) rfl rfl ?aP (fun _ h=>h.elim) (fun _ _=>trivial) HSn.out.fo HSn.out.st.hB HSn.out.st.hB.size hL1 ?_;(case aP=>exact rfl);intro v67 w67 hF hB hg ha;have HSe:=aQ (StK.append HSn.out hB hF hg ha);clear hF hB hg ha)
     | fail)
    go_roundw
    case rel=>exact ⟨_,cntn,L ++ [s],HSe,⟨by rw [List.length_append];have:=HLe.out;have:=HLt.out;simp;omega⟩,HMn⟩
    case measure=>rw [HSe.out.rg.left_eq,HSt.out.rg.left_eq];exact HLt.out
end Go.Proofs.YtbcjpdahdecehaaDoor.P
