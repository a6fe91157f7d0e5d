/- impl.takenApart: what is known of some messages, in a map by their texts. No condition. -/
import Derived.Test.YtbcjpdahdecehaaDoorMapP
namespace Go.Proofs.YtbcjpdahdecehaaDoor.P
open Go.RowKit Go.Proofs.YtbcjpdahdecehaaDoorW.PrintWords Go.Proofs.YtbcjpdahdecehaaDoorW.PrintLast Go.Proofs.YtbcjpdahdecehaaDoorW.PrintMore
open Go.Maps (Keyed IsMap Tidy)
set_option linter.unusedVariables false
set_option linter.unusedSimpArgs false
def knownOk (l:List S25):Bool:=decide (l.length ≤ 6) && l.all sealOk
def ApartIs (w0:World) (l:List S25) (e:Ending) (w':World):Prop :=
 (knownOk l = true → ∃ b D,e = .returned (.tuple #[.map (some b),.bool true])∧StA w0 w' b D∧MapOk w0 l D∧Closed l (Sd D))∧(knownOk l = false → e = .returned (.tuple #[.map none,.bool false])∧Below w0.heap.size w0 w')
theorem key_inv {key:Value} {kl:Lit} (h:keyOf Tryd.prog 9 key = some kl):∃ s:ByteArray,key = .string s∧kl = .string s.data.toList∧s.size ≤ maxLen:=by
 cases key <;> simp [keyOf,Tryd.underlying9,mapKey] at h
 exact ⟨_,rfl,h.2.symm,h.1⟩
def Vis (D:DataW Value) (left:Lit → Bool) (L:List S25):Prop:=∀ x,OkT x → Go.Maps.has D (keyL x) = true → left (keyL x) = false →
 (∀ p q,x = ⟨1,0,[p,q]⟩ → p ∈ L∧q ∈ L)∧(∀ p q,x = ⟨2,0,[p,q]⟩ → p.mkb (Sd D) = true → q ∈ L)
theorem own_below_range {w0 W W':World} {b r n cnt:Nat} {D:DataW Value} {left:Lit → Bool} (h:W'.ranges Tryd.prog 9 RV b r n D left cnt) (hs:StA w0 W b D) (hg:W.grownBy W' none):StA w0 W' b D :=
 ⟨hs.hB.grown hg hs.hB.size (fun k hk=>by cases hk),hs.hb,own_tight h.owns⟩
theorem lit_ne {v:Value} {n b:Nat} (h:∃ k,v.ownBlock = some k∧n ≤ k) (hb:b < n):some b ≠ v.ownBlock:=by
 obtain ⟨k,hk,hn⟩:=h
 rw [hk]
 intro e
 injection e with e
 omega
theorem nodes_known {l:List S25} (h:knownOk l = true):nodesL l ≤ 72:=by
 unfold knownOk at h
 rw [Bool.and_eq_true,decide_eq_true_eq,List.all_eq_true] at h
 have:∀ m:List S25,(∀ y,y ∈ m → sealOk y = true) → nodesL m ≤ 12 * m.length:=by
  intro m
  induction m with
  | nil=>intro _;simp [nodesL]
  | cons y m ih =>
   intro hm
   have h1:=ih fun z hz=>hm z (List.mem_cons_of_mem _ hz)
   have h2:=hm y (List.mem_cons_self ..)
   unfold sealOk at h2
   rw [Bool.and_eq_true,decide_eq_true_eq] at h2
   rw [nodesL,List.length_cons]
   omega
 have:=this l h.2
 omega
theorem next_seal {P:Program} (hP:P = Tryd.prog) (w:World) {ops:Array Oper} {rest:List Oper} {o:Oper} {a:Act} {Q:Exit → Act → World → Prop} (hg:o.guard = none) (it:Operand) (hop:o.op = Op.next it false)
  (b r n:Nat) (D:DataW Value) (left:Lit → Bool) (cnt:Nat) (hit:a.eval it = .pointer (some ⟨r,0,none⟩)) (h:w.ranges Tryd.prog 9 RV b r n D left cnt)
  (hDone:cnt = 0 → (∀ kl,left kl = false) → wpList P ops Q rest (a.put o.dst (.tuple #[.bool false])) w)
  (hMore:∀ (s:ByteArray) (x0 x1:Int) (x2:Option Addr) (x3 x4:Nat) (w':World) (cnt':Nat),s.size ≤ maxLen → left (.string s.data.toList) = true → (∀ zd,D.atKey (.string s.data.toList) zd = .held (mv x0 x1 x2 x3 x4)) → w'.ranges Tryd.prog 9 RV b r n D (fun z=>left z && !z.sameKey (.string s.data.toList)) cnt' → cnt' < cnt →
   w.grownBy w' (some r) → w'.heap.size = w.heap.size → (Instr.entry (.pointer (some ⟨r,0,none⟩))).run P w' = .ok (.tuple #[.string s,.agg #[.int .i64 x0,.int .i64 x1,.slice x2 x3 x4]]) w' → wpList P ops Q rest (a.put o.dst (.tuple #[.bool true,.string s,.agg #[.int .i64 x0,.int .i64 x1,.slice x2 x3 x4]])) w') :
  wpList P ops Q (o :: rest) a w:=by
 subst hP
 refine wpList_next_ranges (α:=ByteArray) (β:=Int × Int × Option Addr × Nat × Nat) w hg it hop 9 lawK RV Value.string (fun c=>mv c.1 c.2.1 c.2.2.1 c.2.2.2.1 c.2.2.2.2) (fun key kl hk=>?_) (fun v y hv=>?_) b r n D left cnt hit h hDone ?_
 ·obtain ⟨s,rfl,_,_⟩:=key_inv hk
  exact ⟨s,rfl⟩
 ·obtain ⟨⟨x0,x1,x2,x3,x4,rfl⟩,_⟩:=RV_inv hv
  exact ⟨(x0,x1,x2,x3,x4),rfl⟩
 ·rintro s ⟨x0,x1,x2,x3,x4⟩ kl y w' cnt' hk hl hv hat hr hlt hgr hsz hen
  obtain ⟨s',e,rfl,hs⟩:=key_inv hk
  injection e with e
  subst e
  have hy:=(RV_inv hv).2
  subst hy
  exact hMore s x0 x1 x2 x3 x4 w' cnt' hs hl hat hr hlt hgr hsz hen
theorem Vis.step {D:DataW Value} {left:Lit → Bool} {L L':List S25} (h:Vis D left L) {y:S25} (hy:OkT y) (hsub:∀ z,z ∈ L → z ∈ L') (h1:∀ p q,y = ⟨1,0,[p,q]⟩ → p ∈ L'∧q ∈ L') (h2:∀ p q,y = ⟨2,0,[p,q]⟩ → p.mkb (Sd D) = true → q ∈ L') :
  Vis D (fun z=>left z && !z.sameKey (keyL y)) L':=by
 intro x hx hh hl
 by_cases e:keyL x = keyL y
 ·obtain rfl:=keyL_inj hx hy e
  exact ⟨h1,h2⟩
 ·have hs:(keyL x).sameKey (keyL y) = false:=Go.Maps.sameKey_ne e
  have hl':(left (keyL x) && !(keyL x).sameKey (keyL y)) = false:=hl
  rw [hs,Bool.not_false,Bool.and_true] at hl'
  obtain ⟨a,b⟩:=h x hx hh hl'
  exact ⟨fun p q e=>⟨hsub _ (a p q e).1,hsub _ (a p q e).2⟩,fun p q e hm=>hsub _ (b p q e hm)⟩
structure StR (w0 W:World) (b r:Nat) (D:DataW Value) (left:Lit → Bool) (cnt:Nat) (v:Value) (L:List S25):Prop where
 st:StA w0 W b D
 rg:W.ranges Tryd.prog 9 RV b r (Go.Maps.size D) D left cnt
 fo:(Kd.fixed k25 w0).R 25 W w0.heap.size (fun _=>True) v L
 nr:some r ≠ v.ownBlock
 nb:some b ≠ v.ownBlock
 hr:w0.heap.size ≤ r
theorem StR.kept {w0 W W':World} {b r cnt:Nat} {D:DataW Value} {left:Lit → Bool} {v:Value} {L:List S25} (h:StR w0 W b r D left cnt v L) (hb:Below W.heap.size W W'):StR w0 W' b r D left cnt v L :=
 ⟨h.st.below hb,h.rg.kept (grown_of_below hb none) (by simp) (by simp),Kd.R_below h.fo hb,h.nr,h.nb,h.hr⟩
theorem StR.alloc {w0 W:World} {b r cnt:Nat} {D:DataW Value} {left:Lit → Bool} {v:Value} {L:List S25} (h:StR w0 W b r D left cnt v L) (o:Obj):StR w0 (W.alloc o) b r D left cnt v L:=h.kept (below_alloc (Below.refl _ _) o)
theorem StR.next {w0 W W':World} {b r cnt cnt':Nat} {D:DataW Value} {left left':Lit → Bool} {v:Value} {L:List S25} (h:StR w0 W b r D left cnt v L) (hr:W'.ranges Tryd.prog 9 RV b r (Go.Maps.size D) D left' cnt') (hg:W.grownBy W' (some r)):StR w0 W' b r D left' cnt' v L :=
 ⟨⟨h.st.hB.grown hg h.st.hB.size (fun k hk=>by injection hk with hk;rw [← hk];exact h.hr),h.st.hb,hr.owns⟩,hr,Kd.R_grown2 h.fo rfl hg (fun k hk=>by injection hk with hk;rw [← hk];exact h.nr),h.nr,h.nb,h.hr⟩
theorem StR.append {w0 W W':World} {b r cnt:Nat} {D:DataW Value} {left:Lit → Bool} {v v1:Value} {L L':List S25} (h:StR w0 W b r D left cnt v L) (hB:Below w0.heap.size w0 W') (hf:(Kd.fixed k25 w0).R 25 W' w0.heap.size (fun _=>True) v1 L') (hg:W.grownBy W' v.ownBlock)
  (ha:v1.ownBlock = v.ownBlock ∨ ∃ k,v1.ownBlock = some k∧W.heap.size ≤ k):StR w0 W' b r D left cnt v1 L':=by
 have hne:∀ g,g < W.heap.size → some g ≠ v.ownBlock → some g ≠ v1.ownBlock:=by
  intro g hg hn
  rcases ha with ha | ⟨k,hk,hle⟩
  ·rw [ha];exact hn
  ·rw [hk]
   intro e
   injection e with e
   omega
 exact ⟨⟨hB,h.st.hb,h.st.own.kept hg h.nb⟩,h.rg.kept hg h.nb h.nr,hf,hne r h.rg.lt h.nr,hne b h.st.lt h.nb,h.hr⟩
theorem at_F {w0 W:World} {A:Option Addr} {n:Nat} {xs:List S25} (h:(Kd.fixed k25 w0).C W A n xs) (i:Int) (h0:0 ≤ i) (h1:i < n):∃ ad A2 c2,A = some ad∧W.cell? (ad.add (i.toNat * 3)) = some (.int .i64 (rd_T25 xs i).f0)∧W.cell? ⟨(ad.add (i.toNat * 3)).block,(ad.add (i.toNat * 3)).off + 1,none⟩ = some (.int .i64 (rd_T25 xs i).f1) ∧
  W.cell? ⟨(ad.add (i.toNat * 3)).block,(ad.add (i.toNat * 3)).off + 2,none⟩ = some (.slice A2 (rd_T25 xs i).f2.length c2)∧(rd_T25 xs i).f2.length ≤ c2∧k25.C w0 A2 (rd_T25 xs i).f2.length (rd_T25 xs i).f2:=by
 obtain ⟨ad,c,e,_,hK,hc0⟩:=Kd.C_get h z25 i h0 h1
 have hc:∀ j u,c[j]? = some u → W.cell? (ad.add (i.toNat * 3 + j)) = some u:=hc0
 have hK':k25.K w0 (rd_T25 xs i) c:=hK
 obtain ⟨A2,c2,rfl,l2,g2⟩:=k25_open hK'
 exact ⟨ad,A2,c2,e,hc 0 _ rfl,by rw [← add_field _ _ 1 (by omega)];exact hc 1 _ rfl,by rw [← add_field _ _ 2 (by omega)];exact hc 2 _ rfl,l2,g2⟩
structure StF (w0 W:World) (b:Nat) (D:DataW Value) (v:Value) (L:List S25):Prop where
 st:StA w0 W b D
 fo:(Kd.fixed k25 w0).R 25 W w0.heap.size (fun _=>True) v L
 nb:some b ≠ v.ownBlock
theorem StF.kept {w0 W W':World} {b:Nat} {D:DataW Value} {v:Value} {L:List S25} (h:StF w0 W b D v L) (hb:Below W.heap.size W W'):StF w0 W' b D v L:=⟨h.st.below hb,Kd.R_below h.fo hb,h.nb⟩
theorem StF.alloc {w0 W:World} {b:Nat} {D:DataW Value} {v:Value} {L:List S25} (h:StF w0 W b D v L) (o:Obj):StF w0 (W.alloc o) b D v L:=h.kept (below_alloc (Below.refl _ _) o)
theorem StF.drew {w0 W:World} {b:Nat} {D:DataW Value} {v:Value} {L:List S25} (h:StF w0 W b D v L):StF w0 W.drew b D v L:=h.kept (below_drew (Below.refl _ _))
section
variable {ops:Array Oper} {o:Oper} {a:Act} {Q:Exit → Act → World → Prop} {Kc:Act → World → Prop}
theorem update_stepF {W w0:World} (hw:Region.wanted o (yielded ops a.tmps) = true) (m x v:Operand) (hop:o.op = Op.mapUpdate 65 m x v) (hN:o.dst = none) {b:Nat} {D:DataW Value} {v8:Value} {L:List S25} (hm:a.eval m = .map (some b)) (h:StF w0 W b D v8 L) (hn:Go.Maps.size D < maxLen)
  (s:ByteArray) (x0 x1:Int) (A:Option Addr) (n c:Nat) (hx:a.eval x = .string s) (hv:a.eval v = mv x0 x1 A n c) (hs:s.size ≤ maxLen)
  (hK:∀ w',StF w0 w' b (D.put (.string s.data.toList) (.held (mv x0 x1 A n c))) v8 L → Kc a w') :
  if Region.wanted o (yielded ops a.tmps) = true then Oper.wp Tryd.prog o a W Kc Q else Kc (a.put none undef) W:=by
 rw [if_pos hw]
 obtain ⟨w',hrun,r1,r2⟩:=h.st.own.update lawK Tryd.underlying65 hn (key_of hs) (RV_mk x0 x1 A n c)
 unfold Oper.wp
 simp [execOp,hop,hm,hx,hv,hrun,Result.andThen,hN]
 show Kc (a.put o.dst undef) w'
 rw [hN]
 exact hK _ ⟨h.st.put r1 r2,Kd.R_grown2 h.fo rfl r2 (fun k hk=>by injection hk with hk;rw [← hk];exact h.nb),h.nb⟩
end
set_option maxHeartbeats 4000000 in
set_option maxRecDepth 100000 in
theorem apart_calls (A:Option Addr) (c:Nat) (l:List S25) (w:World) (hC:Kd.C k25 w A l.length l) (hc:l.length ≤ c) (hW:∀ y,y ∈ l → W25 y) :
  Calls Tryd.prog 54 #[.slice A l.length c] w (ApartIs w l):=by
 have HC:=aQ hC
 have HW:=aQ hW
 clear hC hW
 by_cases h6:6 < l.length
 ·have h6b:decide (6 < (l.length:Int)) = true:=decide_eq_true (by omega)
  have hk:knownOk l = false:=by
   unfold knownOk
   rw [decide_eq_false (by omega)]
   rfl
  go_enter Tryd.func54,Tryd.ntmps54
  go_wp2
  go_ret2
  refine ⟨fun h=>?_,fun _=>⟨rfl,Below.refl _ _⟩⟩
  rw [hk] at h
  cases h
 ·have h6b:decide (6 < (l.length:Int)) = false:=decide_eq_false (by omega)
  have hmm:=@run_makeMap Tryd.prog
  go_enter Tryd.func54,Tryd.ntmps54
  go_wp2
  go_loopw [21] (fun i wr=>∃ (x:Int) (D:DataW Value),i = .int .i64 x∧Aside0 (0 ≤ x∧x ≤ l.length)∧Aside0 (StA w wr w.heap.size D)∧Aside0 (MapOk w l D)∧Aside0 (Go.Maps.size D ≤ x.toNat)∧Aside0 (∀ y,y ∈ l.take x.toNat → Sd D y.tx = true∧sealOk y = true)) (fun i _=>l.length - (intOf i).toNat)
  case atStart=>exact ⟨0,.map [],rfl,⟨by omega,by omega⟩,⟨(Below.refl _ _).alloc (Nat.le_refl _) _,Nat.le_refl _,World.ownsMap_made _ _ _ _⟩,⟨MapOk.nil _ _⟩,⟨Nat.zero_le _⟩,⟨fun y hy=>by simp at hy⟩⟩
  case round =>
   obtain ⟨x,D,rfl,HX,HS,HM,HZ,HT⟩:=hrel
   by_cases hlt:x < (l.length:Int)
   ·have hltb:decide (x < (l.length:Int)) = true:=decide_eq_true hlt
    have p0:0 ≤ x:=HX.out.1
    obtain ⟨ad,Ax,cx,rfl,h0,h1,h2,hl,hCy0⟩:=at_T25 HC.out x p0 hlt
    have hCx0:=Kd.C_below hCy0 HS.out.hB
    replace h0:=(HS.out.hB.cell (World.block_lt_of_cell? _ _ h0)).trans h0
    replace h1:=(HS.out.hB.cell (World.block_lt_of_cell? _ _ h1)).trans h1
    replace h2:=(HS.out.hB.cell (World.block_lt_of_cell? _ _ h2)).trans h2
    have hxi:x.toNat < l.length:=by omega
    have hxe:rd_T25 l x = l[x.toNat]:=by
     have:=rd25_nat l x.toNat hxi
     rwa [Int.toNat_of_nonneg p0] at this
    rw [hxe] at h0 h1 h2 hl hCx0 hCy0
    generalize hye:l[x.toNat] = y at *
    have hyl:y ∈ l:=hye ▸ List.getElem_mem hxi
    have hyW:=HW.out y hyl
    replace p0:=eq_true p0
    cases hok:sealOk y with
    | false =>
     go_wp2_with (first
      | (go_at_call 14;refine (sealOk_at hyW Ax cx _ (Kd.C_alloc hCx0 _) hl).mono ?_;rw [hok];rintro e w4 ⟨rfl,hb4⟩)
      | fail)
     go_ret2
     have hk:knownOk l = false:=by
      unfold knownOk
      rw [Bool.and_eq_false_iff]
      refine .inr (Bool.eq_false_iff.2 fun h=>?_)
      rw [List.all_eq_true] at h
      rw [h y hyl] at hok
      cases hok
     refine ⟨fun h=>?_,fun _=>⟨rfl,below_step (HS.out.hB.alloc HS.out.hB.size _) hb4⟩⟩
     rw [hk] at h
     cases h
    | true =>
     obtain ⟨hyO,hyN⟩:=sealOk_t hyW hok
     have hyD:Der l y:=.base hyl
     go_wp2_with (first
      | (go_at_call 14;refine (sealOk_at hyW Ax cx _ (Kd.C_alloc hCx0 _) hl).mono ?_;rw [hok];rintro e w4 ⟨rfl,hb4⟩)
      | fail)
     have BK:=blk_below (blk_new wr (.cells #[.int .i64 y.f0,.int .i64 y.f1,.slice Ax y.f2.length cx] 25 (0,0))) hb4
     have HS4:=aQ (StA.drew (StA.below (StA.alloc HS.out (.cells #[.int .i64 y.f0,.int .i64 y.f1,.slice Ax y.f2.length cx] 25 (0,0))) hb4))
     have HC4:=aQ (Kd.C_drew (Kd.C_below (Kd.C_alloc hCx0 (.cells #[.int .i64 y.f0,.int .i64 y.f1,.slice Ax y.f2.length cx] 25 (0,0))) hb4))
     generalize hg6:wr.heap.size = g6 at *
     have BK4:=aQ (blk_drew BK)
     clear hb4 BK
     refine start_ (n:=5) (S:=fun w'=>w'.cell? ⟨g6,0,none⟩ = some (.int .i64 y.f0)∧w'.cell? ⟨g6,1,none⟩ = some (.int .i64 y.f1)∧w'.cell? ⟨g6,2,none⟩ = some (.slice Ax y.f2.length cx)) (ds:=[4]) #[false,false,false,false,false] (by kernel_rfl) rfl rfl ⟨(blk_cell BK4.out 0).trans rfl,(blk_cell BK4.out 1).trans rfl,(blk_cell BK4.out 2).trans rfl⟩ (fun hHeld=>?_)
     generalize w4.drew = w5 at *
     refine pure_ (i:=0) (N:=some 28) (v:=?_) (a':=?_) #[true,false,false,false,false] rfl rfl (by kernel_rfl) (fun _ _ _ h=>h) (Or.inl ⟨by rfl,?_⟩) ?_ ?_
     rotate_left;·intro w';go_simp;with_reducible rfl
     rotate_left;·simp only [Act.put,List.setIfInBounds_toArray,List.set_cons_zero,List.set_cons_succ,i64_w,i32_w];rfl
     refine take_ (i:=1) (N:=some 29) (v:=?_) (a':=?_) #[true,true,false,false,false] rfl rfl (by kernel_rfl) (fun _ _ _ h=>h) (Or.inl ⟨by rfl,?_⟩) hHeld ?_ ?_
     rotate_left;·rintro w' ⟨s0,s1,s2⟩;go_simp;with_reducible rfl
     rotate_left;·simp only [Act.put,List.setIfInBounds_toArray,List.set_cons_zero,List.set_cons_succ,i64_w,i32_w];rfl
     refine take_ (i:=3) (N:=some 31) (v:=?_) (a':=?_) #[true,true,false,true,false] rfl rfl (by kernel_rfl) (fun _ _ _ h=>h) (Or.inl ⟨by rfl,?_⟩) hHeld ?_ ?_
     rotate_left;·rintro w' ⟨s0,s1,s2⟩;go_simp;with_reducible rfl
     rotate_left;·simp only [Act.put,List.setIfInBounds_toArray,List.set_cons_zero,List.set_cons_succ,i64_w,i32_w];rfl
     refine one_ (i:=2) (N:=some 30) #[true,true,true,true,false] rfl rfl (by kernel_rfl) (by decide) (fun K hK=>?_)
     refine goes_ Tryd.func46 (by kernel_rfl) rfl #[.agg #[.int .i64 y.f0,.int .i64 y.f1,.slice Ax y.f2.length cx]] (by rfl) rfl rfl (by (try simp only [List.map_toArray,List.map_cons,List.map_nil]);first | done | rfl) ?_
     refine (sealText_at hyO hyN Ax cx _ HC4.out hl).mono ?_
     rintro e w6 ⟨rfl,hb6⟩
     have BK6:=aQ (blk_below BK4.out hb6)
     have HS6:=aQ (StA.below HS4.out hb6)
     refine ⟨_,rfl,?_⟩
     refine hK.out _ _ ⟨(blk_cell BK6.out 0).trans rfl,(blk_cell BK6.out 1).trans rfl,(blk_cell BK6.out 2).trans rfl⟩ (fun hHeld=>?_)
     clear hK K hb6
     refine norm_ (a':=?_) ?_ ?_
     rotate_left
     ·show Act.put _ (some 30) _ = _
      simp only [Act.put,List.setIfInBounds_toArray,List.set_cons_zero,List.set_cons_succ,i64_w,i32_w]
      rfl
     refine last_ (i:=4) (N:=none) #[true,true,true,true,true] rfl rfl (by kernel_rfl) (by decide) (fun K hK=>?_)
     refine update_step (by rfl) _ _ _ rfl rfl rfl HS6.out ?hz y.tx y.f0 y.f1 Ax y.f2.length cx rfl rfl ?ht ?_
     case hz =>
      have:=HZ.out
      have:=HX.out
      unfold maxLen
      omega
     case ht =>
      have:=(tx_size hyO).2
      unfold maxLen
      omega
     intro w7 HS7'
     have HS7:=aQ HS7'
     clear HS7' HS6 HS4 HC4 BK4 BK6
     refine hK.out _ _ (done_ (by kernel_rfl) ?_)
     clear hK K
     go_wp2
     go_roundw
     case rel =>
      have hx:=HX.out
      have hw:wrap64 (x + 1) = x + 1:=wrap_id (by omega) (by omega)
      have hts:(x + 1).toNat = x.toNat + 1:=by omega
      refine ⟨x + 1,D.put (keyL y) (.held (mv y.f0 y.f1 Ax y.f2.length cx)),by rw [hw],⟨by omega,by omega⟩,HS7,⟨HM.out.put hyO hyN hyD hl hCy0⟩,⟨?_⟩,⟨?_⟩⟩
      ·have hs:=Go.Maps.size_put (k:=keyL y) HS.out.tidy (.held (mv y.f0 y.f1 Ax y.f2.length cx))
       have:=HZ.out
       rw [hs,hts]
       split <;> omega
      ·intro z hz
       rw [hts,List.take_add_one,List.mem_append,List.getElem?_eq_getElem hxi,hye] at hz
       rcases hz with hz | hz
       ·exact ⟨Sd_put_mono HM.out.isMap _ _ (HT.out z hz).1,(HT.out z hz).2⟩
       ·simp only [Option.toList_some,List.mem_singleton] at hz
        rw [hz]
        exact ⟨Sd_put_same HM.out.isMap _ _,hok⟩
     case measure =>
      have hx:=HX.out
      have hw:wrap64 (x + 1) = x + 1:=wrap_id (by omega) (by omega)
      rw [hw]
      show l.length - (x + 1).toNat < l.length - x.toNat
      omega
   ·have hltb:decide (x < (l.length:Int)) = false:=decide_eq_false hlt
    have hall:∀ y,y ∈ l → Sd D y.tx = true∧sealOk y = true:=fun y hy=>HT.out y (by
     have:=HX.out
     rw [List.take_of_length_le (by omega)]
     exact hy)
    have hk:knownOk l = true:=by
     unfold knownOk
     rw [decide_eq_true (by omega),List.all_eq_true.2 fun y hy=>(hall y hy).2]
     rfl
    have HA:=aQ hall
    have HKn:=aQ hk
    clear hall hk HT HZ HX
    go_wp2
    go_loopg [7] (2 * (nodesL l - Go.Maps.size D) + 2) (fun kq v7 wr'=>∃ (ch:Bool) (D':DataW Value),v7 = .bool ch∧Aside0 (2 * (nodesL l - Go.Maps.size D') + (if ch = true then 1 else 0) + 1 ≤ kq)∧Aside0 (StA w wr' w.heap.size D')∧Aside0 (MapOk w l D')∧Aside0 (∀ y,y ∈ l → Sd D' y.tx = true)∧Aside0 (ch = false → Closed l (Sd D')))
    case atStart=>exact ⟨true,D,rfl,⟨Nat.le_refl _⟩,HS,HM,⟨fun y hy=>(HA.out y hy).1⟩,⟨fun h=>by cases h⟩⟩
    case round =>
     obtain ⟨ch,D',rfl,HQ,HS',HM',HB',HCl⟩:=hrel
     clear HS HM HA
     cases ch with
     | false =>
      go_wp2
      go_ret2
      refine ⟨fun _=>⟨w.heap.size,D',rfl,HS'.out,HM'.out,HCl.out trivial⟩,fun h=>?_⟩
      rw [HKn.out] at h
      cases h
     | true =>
      have hQ:=HQ.out
      rw [if_pos rfl] at hQ
      go_wp2_with (first
       | ((with_reducible refine gate_dst (N:=34) rfl ?_);refine Kd.R_lit (Kd.fixed k25 w) (w0:=w) w.heap.size 25 ?hg (N:=34) ?hd (xs:=[]) (inner:=[]) (ok:=fun _=>True) (okp:=fun _=>True) ?hr ?hp (fun _ _=>trivial) trivial HS'.out.hB HS'.out.hB.size (by simp) ?_;(case hd=>rfl);(case hg=>rfl);(case hr=>first | (go_simp;done) | (go_simp;rfl));(case hp=>exact (Reps.none _ _));intro v34 w34 hF hb34 hg34 hn34;have HS34:=aQ (StA.mk hb34 HS'.out.hb (HS'.out.own.kept hg34 (by simp)));have HF34:=aQ hF;have HN34:=aQ (lit_ne hn34 HS'.out.lt);clear hF hb34 hg34 hn34)
       | (at_range;refine wpList_range_own _ rfl _ 65 rfl 9 25 lawK Tryd.underlying65 RV w.heap.size (Go.Maps.size D') D' rfl HS34.out.own ?_;intro w36 hrg hgr hsz)
       | fail)
      have hr36:w.heap.size ≤ w34.heap.size:=HS34.out.hB.size
      have hb34:w.heap.size < w34.heap.size:=HS34.out.lt
      have HR:=aQ (StR.mk (own_below_range hrg HS34.out hgr) hrg (Kd.R_grown HF34.out hgr (fun _ _=>by simp)) (fun e=>by have:=Kd.R_lt HF34.out _ e.symm;omega) HN34.out hr36)
      clear hrg hgr hsz HS34 HF34 hb34 hr36
      generalize w34.heap.size = r36 at *
      go_loopw [8] (fun v8 wr2=>∃ (left:Lit → Bool) (cnt:Nat) (L:List S25),Aside0 (StR w wr2 w.heap.size r36 D' left cnt v8 L)∧Aside0 (L.length + 2 * cnt ≤ 2 * Go.Maps.size D')∧Aside0 (∀ y,y ∈ L → OkT y∧y.nodes ≤ 12∧Der l y)∧Aside0 (Vis D' left L)) (fun _ wr2=>wr2.rangeLeft w.heap.size r36)
      case atStart=>exact ⟨_,_,[],HR,⟨by simp⟩,⟨fun y hy=>by cases hy⟩,⟨fun x _ h1 h2=>by rw [h1] at h2;cases h2⟩⟩
      case round =>
       obtain ⟨left,cnt,L,HSt,HLe,HLd,HVi⟩:=hrel
       have HZ:=aQ (HM'.out.size HSt.out.st.own)
       have HN6:=aQ (nodes_known HKn.out)
       go_wp2_with (first
        | (at_next;refine next_seal rfl _ rfl _ rfl _ _ _ _ _ _ rfl HSt.out.rg ?_ ?_)
        | fail)
       ·intro hc0 hl0
        have HSf:=aQ (StF.mk HSt.out.st HSt.out.fo HSt.out.nb)
        have HV2:=aQ (fun x hx hh=>HVi.out x hx hh (hl0 _))
        have HLb:=aQ (show L.length ≤ 200 by have:=HLe.out;have:=HZ.out;have:=HN6.out;omega)
        clear hc0 hl0 HSt HLe HVi
        obtain ⟨A8,c8,e8⟩:=Kd.R_slice HSf.out.fo
        subst e8
        go_wp2
        go_loopw [70,7] (fun v70 v7 wf=>∃ (j:Int) (ch:Bool) (D2:DataW Value),v70 = .int .i64 j∧v7 = .bool ch∧Aside0 (0 ≤ j∧j ≤ L.length)∧Aside0 (StF w wf w.heap.size D2 (.slice A8 L.length c8) L)∧Aside0 (MapOk w l D2)∧Aside0 (∀ kl,Go.Maps.has D' kl = true → Go.Maps.has D2 kl = true)∧Aside0 (∀ y,y ∈ L.take j.toNat → Sd D2 y.tx = true)∧Aside0 ((ch = false → D2 = D')∧Go.Maps.size D' + (if ch = true then 1 else 0) ≤ Go.Maps.size D2)) (fun v70 _ _=>L.length - (intOf v70).toNat)
        case atStart=>exact ⟨0,false,D',rfl,rfl,⟨by omega,by omega⟩,HSf,HM',⟨fun _ h=>h⟩,⟨fun y hy=>by simp at hy⟩,⟨fun _=>rfl,by simp⟩⟩
        case round =>
         obtain ⟨j,ch,D2,rfl,rfl,HJ,HSg,HM2,HMo,HTk,HCh⟩:=hrel
         by_cases hlt:j < (L.length:Int)
         ·have hltb:decide (j < (L.length:Int)) = true:=decide_eq_true hlt
          have p0:0 ≤ j:=HJ.out.1
          obtain ⟨ad,Ax,cx,rfl,h0,h1,h2,hl,hCy0⟩:=at_F (Kd.R_reads' HSg.out.fo).2.2 j p0 hlt
          have hxi:j.toNat < L.length:=by omega
          have hxe:rd_T25 L j = L[j.toNat]:=by
           have:=rd25_nat L j.toNat hxi
           rwa [Int.toNat_of_nonneg p0] at this
          rw [hxe] at h0 h1 h2 hl hCy0
          generalize hye:L[j.toNat] = y at *
          obtain ⟨hyO,hyN,hyD⟩:=HLd.out y (hye ▸ List.getElem_mem hxi)
          have hCx0:=Kd.C_below hCy0 HSg.out.st.hB
          have hsz:y.tx.size ≤ maxLen:=by
           have:=(tx_size hyO).2
           unfold maxLen
           omega
          have hsz2:Go.Maps.size D2 < maxLen:=by
           have:=HM2.out.size HSg.out.st.own
           have:=HN6.out
           unfold maxLen
           omega
          replace p0:=eq_true p0
          have HK:=aQ (key_of hsz)
          have HT:=aQ (sealText_at hyO hyN Ax cx _ (Kd.C_alloc hCx0 (.cells #[.int .i64 y.f0,.int .i64 y.f1,.slice Ax y.f2.length cx] 25)) hl)
          cases hd:Sd D2 y.tx with
          | true =>
           have hd':Go.Maps.has D2 (.string y.tx.data.toList) = true:=hd
           go_wp2_with (first
            | (go_at_call 46;refine HT.out.mono ?_;rintro e w77 ⟨rfl,hb77⟩;have HSh:=aQ (StF.kept (StF.alloc HSg.out _) hb77);clear hb77)
            | (at_lookup;refine lookup_seal rfl _ rfl _ _ rfl _ _ D2 rfl HSh.out.st.own _ _ rfl HK.out ?_;intro x0 x1 x2 x3 x4)
            | fail)
           have HSi:=aQ (StF.alloc HSh.out (.cells #[.int .i64 x0,.int .i64 x1,.slice x2 x3 x4] 25))
           go_roundw
           case rel =>
            have hx:=HJ.out
            have hLb:=HLb.out
            have hw:wrap64 (j + 1) = j + 1:=wrap_id (by omega) (by omega)
            have hts:(j + 1).toNat = j.toNat + 1:=by omega
            refine ⟨j + 1,ch,D2,by rw [hw],rfl,⟨by omega,by omega⟩,HSi,HM2,HMo,⟨fun z hz=>?_⟩,HCh⟩
            rw [hts,List.take_add_one,List.mem_append,List.getElem?_eq_getElem hxi,hye] at hz
            rcases hz with hz | hz
            ·exact HTk.out z hz
            ·simp only [Option.toList_some,List.mem_singleton] at hz
             rw [hz]
             exact hd
           case measure =>
            have hx:=HJ.out
            have hLb:=HLb.out
            have hw:wrap64 (j + 1) = j + 1:=wrap_id (by omega) (by omega)
            rw [hw]
            show L.length - (j + 1).toNat < L.length - j.toNat
            omega
          | false =>
           have hd':Go.Maps.has D2 (.string y.tx.data.toList) = false:=hd
           go_wp2_with fail
           refine HT.out.mono ?_
           rintro e w77 ⟨rfl,hb77⟩
           have HSh:=aQ (StF.kept (StF.alloc HSg.out _) hb77)
           have BK:=aQ (blk_below (blk_new wr (.cells #[.int .i64 y.f0,.int .i64 y.f1,.slice Ax y.f2.length cx] 25 (0,0))) hb77)
           have HC7:=aQ (Kd.C_below (Kd.C_alloc hCx0 _) hb77)
           clear hb77
           go_wp2_with (first
            | (at_lookup;refine lookup_seal rfl _ rfl _ _ rfl _ _ D2 rfl HSh.out.st.own _ _ rfl HK.out ?_;intro x0 x1 x2 x3 x4)
            | fail)
           have HS4:=aQ (StF.drew (StF.alloc HSh.out (.cells #[.int .i64 x0,.int .i64 x1,.slice x2 x3 x4] 25 (0,0))))
           have HC4:=aQ (Kd.C_drew (Kd.C_alloc HC7.out (.cells #[.int .i64 x0,.int .i64 x1,.slice x2 x3 x4] 25 (0,0))))
           have BK4:=aQ (blk_drew (blk_alloc BK.out (.cells #[.int .i64 x0,.int .i64 x1,.slice x2 x3 x4] 25 (0,0))))
           generalize wr.heap.size = g12 at *
           clear BK HSh HC7 HT h0 h1 h2
           refine start_ (n:=5) (S:=fun w'=>w'.cell? ⟨g12,0,none⟩ = some (.int .i64 y.f0)∧w'.cell? ⟨g12,1,none⟩ = some (.int .i64 y.f1)∧w'.cell? ⟨g12,2,none⟩ = some (.slice Ax y.f2.length cx)) (ds:=[4]) #[false,false,false,false,false] (by kernel_rfl) rfl rfl ⟨(blk_cell BK4.out 0).trans rfl,(blk_cell BK4.out 1).trans rfl,(blk_cell BK4.out 2).trans rfl⟩ (fun hHeld=>?_)
           generalize World.drew _ = w5 at *
           refine pure_ (i:=0) (N:=some 83) (v:=?_) (a':=?_) #[true,false,false,false,false] rfl rfl (by kernel_rfl) (fun _ _ _ h=>h) (Or.inl ⟨by rfl,?_⟩) ?_ ?_
           rotate_left;·intro w';go_simp;with_reducible rfl
           rotate_left;·simp only [Act.put,List.setIfInBounds_toArray,List.set_cons_zero,List.set_cons_succ,i64_w,i32_w];rfl
           refine take_ (i:=1) (N:=some 84) (v:=?_) (a':=?_) #[true,true,false,false,false] rfl rfl (by kernel_rfl) (fun _ _ _ h=>h) (Or.inl ⟨by rfl,?_⟩) hHeld ?_ ?_
           rotate_left;·rintro w' ⟨s0,s1,s2⟩;go_simp;with_reducible rfl
           rotate_left;·simp only [Act.put,List.setIfInBounds_toArray,List.set_cons_zero,List.set_cons_succ,i64_w,i32_w];rfl
           refine take_ (i:=3) (N:=some 86) (v:=?_) (a':=?_) #[true,true,false,true,false] rfl rfl (by kernel_rfl) (fun _ _ _ h=>h) (Or.inl ⟨by rfl,?_⟩) hHeld ?_ ?_
           rotate_left;·rintro w' ⟨s0,s1,s2⟩;go_simp;with_reducible rfl
           rotate_left;·simp only [Act.put,List.setIfInBounds_toArray,List.set_cons_zero,List.set_cons_succ,i64_w,i32_w];rfl
           refine one_ (i:=2) (N:=some 85) #[true,true,true,true,false] rfl rfl (by kernel_rfl) (by decide) (fun K hK=>?_)
           refine goes_ Tryd.func46 (by kernel_rfl) rfl #[.agg #[.int .i64 y.f0,.int .i64 y.f1,.slice Ax y.f2.length cx]] (by rfl) rfl rfl (by (try simp only [List.map_toArray,List.map_cons,List.map_nil]);first | done | rfl) ?_
           refine (sealText_at hyO hyN Ax cx _ HC4.out hl).mono ?_
           rintro e w6 ⟨rfl,hb6⟩
           have BK6:=aQ (blk_below BK4.out hb6)
           have HS6:=aQ (StF.kept HS4.out hb6)
           refine ⟨_,rfl,?_⟩
           refine hK.out _ _ ⟨(blk_cell BK6.out 0).trans rfl,(blk_cell BK6.out 1).trans rfl,(blk_cell BK6.out 2).trans rfl⟩ (fun hHeld=>?_)
           clear hK K hb6
           refine norm_ (a':=?_) ?_ ?_
           rotate_left
           ·show Act.put _ (some 85) _ = _
            simp only [Act.put,List.setIfInBounds_toArray,List.set_cons_zero,List.set_cons_succ,i64_w,i32_w]
            rfl
           refine last_ (i:=4) (N:=none) #[true,true,true,true,true] rfl rfl (by kernel_rfl) (by decide) (fun K hK=>?_)
           refine update_stepF (by rfl) _ _ _ rfl rfl rfl HS6.out hsz2 y.tx y.f0 y.f1 Ax y.f2.length cx rfl rfl hsz ?_
           intro w7 HS7'
           have HS7:=aQ HS7'
           clear HS7' HS6 HS4 HC4 BK4 BK6
           refine hK.out _ _ (done_ (by kernel_rfl) ?_)
           clear hK K
           go_wp2
           go_roundw
           case rel =>
            have hx:=HJ.out
            have hLb:=HLb.out
            have hw:wrap64 (j + 1) = j + 1:=wrap_id (by omega) (by omega)
            have hts:(j + 1).toNat = j.toNat + 1:=by omega
            refine ⟨j + 1,true,D2.put (keyL y) (.held (mv y.f0 y.f1 Ax y.f2.length cx)),by rw [hw],rfl,⟨by omega,by omega⟩,HS7,⟨HM2.out.put hyO hyN hyD hl hCy0⟩,⟨fun kl h=>has_put_mono HM2.out.isMap _ _ (HMo.out kl h)⟩,⟨fun z hz=>?_⟩,⟨by simp,?_⟩⟩
            ·rw [hts,List.take_add_one,List.mem_append,List.getElem?_eq_getElem hxi,hye] at hz
             rcases hz with hz | hz
             ·exact Sd_put_mono HM2.out.isMap _ _ (HTk.out z hz)
             ·simp only [Option.toList_some,List.mem_singleton] at hz
              rw [hz]
              exact Sd_put_same HM2.out.isMap _ _
            ·have hs:=Go.Maps.size_put (k:=keyL y) HSg.out.st.tidy (.held (mv y.f0 y.f1 Ax y.f2.length cx))
             have hh:Go.Maps.has D2 (keyL y) = false:=hd
             rw [hs,hh]
             have h2:=HCh.out.2
             by_cases hc:ch = true
             ·rw [if_pos hc] at h2
              simp
              omega
             ·rw [if_neg hc] at h2
              simp
              omega
           case measure =>
            have hx:=HJ.out
            have hLb:=HLb.out
            have hw:wrap64 (j + 1) = j + 1:=wrap_id (by omega) (by omega)
            rw [hw]
            show L.length - (j + 1).toNat < L.length - j.toNat
            omega
         ·have hltb:decide (j < (L.length:Int)) = false:=decide_eq_false hlt
          have hall:∀ y,y ∈ L → Sd D2 y.tx = true:=fun y hy=>HTk.out y (by
           have:=HJ.out
           rw [List.take_of_length_le (by omega)]
           exact hy)
          have hfin:ch = false → Closed l (Sd D2):=by
           intro hc
           have e:=HCh.out.1 hc
           subst e
           exact ⟨HB'.out,fun p q hp hq hs=>by
            have:=(HV2.out _ (.pair p q hp hq) hs).1 p q rfl
            exact ⟨hall _ this.1,hall _ this.2⟩,fun p q hp hq hs hm=>hall _ ((HV2.out _ (.shut p q hp hq) hs).2 p q rfl hm)⟩
          have HF:=aQ hfin
          have HN2:=aQ (HM2.out.size HSg.out.st.own)
          clear hall hfin
          go_wp2
          go_roundg (2 * (nodesL l - Go.Maps.size D2) + (if ch = true then 1 else 0) + 1)
          case measure =>
           have h1:=HCh.out.2
           have h2:=HN2.out
           by_cases hc:ch = true
           ·rw [if_pos hc] at h1 ⊢
            omega
           ·rw [if_neg hc] at h1 ⊢
            omega
          case rel=>exact ⟨ch,D2,rfl,⟨Nat.le_refl _⟩,⟨HSg.out.st⟩,HM2,⟨fun y hy=>HMo.out _ (HB'.out y hy)⟩,HF⟩
       ·intro s x0 x1 x2 x3 x4 wn cntn hks hls hat hrn hlt hgn hsn hen
        obtain ⟨y,Ay,cy,hyO,hyN,hyD,hk,hat',hly,hCy⟩:=HM'.out.ent _ (Go.Maps.has_true_of_atKey hat)
        have hv:=(hat' .nil).symm.trans (hat .nil)
        injection hv with hv
        unfold mv at hv
        injection hv with hv
        simp only [Array.mk.injEq,List.cons.injEq,Value.int.injEq,Value.slice.injEq,true_and,and_true] at hv
        obtain ⟨rfl,rfl,rfl,rfl,rfl⟩:=hv
        rw [hk] at hrn
        have HSn:=aQ (StR.next HSt.out hrn hgn)
        have HCy:=aQ hCy
        have HMe:=aQ (And.intro hrn.left_eq (And.intro HSt.out.rg.left_eq hlt))
        have HD:=aQ (And.intro hyN hyD)
        have HLt:=aQ hlt
        clear hyN hyD hk hat hat' hrn hgn hsn hlt hks hls hCy
        cases hyO with
        | name b0 g0 g1 =>
         have HSe:=aQ (StR.alloc HSn.out (.cells #[.int .i64 0,.int .i64 b0,.slice Ay 0 cy] 25))
         go_wp2
         go_roundw
         case rel=>exact ⟨_,cntn,L,HSe,⟨by have:=HLe.out;have:=HLt.out;omega⟩,HLd,⟨HVi.out.step (.name b0 g0 g1) (fun _ h=>h) (fun p q e=>by cases e) (fun p q e=>by cases e)⟩⟩
         case measure=>rw [HSe.out.rg.left_eq,HMe.out.2.1];exact HLt.out
        | pair p q hp hq =>
         have HSb:=aQ (StR.alloc HSn.out (.cells #[.int .i64 1,.int .i64 0,.slice Ay 2 cy] 25))
         go_wp2_with (first
          | (at_builtin;refine Kd.R_append_rows (Kd.fixed k25 w) (Rr:=fun x cs=>k25.K w x cs) (w0:=w) w.heap.size rfl (.tmp 45) (.tmp 47) 23 25 (.agg #[.int .i64 0,.int .i64 0,.slice none 0 0]) 40 rfl Tryd.underlying23 info25 rfl (show 0 < 3 from by decide) (by omega) u8 L [p,q] Ay 2 cy (fun _=>True) (fun _=>False) rfl rfl HSb.out.fo ?aR (fun _ _ h=>h) (fun _ h=>h.elim) (fun _ _=>trivial) HSb.out.st.hB HSb.out.st.hB.size ?aL ?_;(case aR=>exact ReadsRow.imp_ HCy.out HSb.out.st.hB (fun _ _ h=>h));(case aL=>(have:=HLe.out;have:=HZ.out;have:=HN6.out;omega));intro v48 w48 hF hB hg ha;have HSe:=aQ (StR.append HSb.out hB hF hg ha);clear hF hB hg ha)
          | fail)
         have hnn:=HD.out.1
         rw [nodes2] at hnn
         go_roundw
         case rel=>exact ⟨_,cntn,L ++ [p,q],HSe,⟨by rw [List.length_append];have:=HLe.out;have:=HLt.out;simp;omega⟩,⟨fun z hz=>by
          rcases List.mem_append.1 hz with hz | hz
          ·exact HLd.out z hz
          ·simp only [List.mem_cons,List.not_mem_nil,or_false] at hz
           rcases hz with rfl | rfl
           ·exact ⟨hp,by omega,.fst HD.out.2⟩
           ·exact ⟨hq,by omega,.snd HD.out.2⟩⟩,⟨HVi.out.step (.pair p q hp hq) (fun _ h=>List.mem_append_left _ h) (fun p' q' e=>by cases e;exact ⟨by simp,by simp⟩) (fun p' q' e=>by cases e)⟩⟩
         case measure=>rw [HSe.out.rg.left_eq,HMe.out.2.1];exact HLt.out
        | shut p q hp hq =>
         have HSb:=aQ (StR.alloc HSn.out (.cells #[.int .i64 2,.int .i64 0,.slice Ay 2 cy] 25))
         have hnn:=HD.out.1
         rw [nodes2] at hnn
         obtain ⟨ad,Ap,cp,Aq,cq,rfl,h0,h1,h2,g0,g1,g2,hlp,hCp,hlq,hCq⟩:=two_cells HCy.out
         have hltw:=World.block_lt_of_cell? _ _ h0
         have hltn:ad.block < wn.heap.size:=Nat.lt_of_lt_of_le hltw HSn.out.st.hB.size
         replace h0:=(HSn.out.st.hB.cell (p:=ad) hltw).trans h0
         replace h1:=(HSn.out.st.hB.cell (p:=⟨ad.block,ad.off + 1,none⟩) hltw).trans h1
         replace h2:=(HSn.out.st.hB.cell (p:=⟨ad.block,ad.off + 2,none⟩) hltw).trans h2
         have HG:=aQ (And.intro g0 (And.intro g1 g2))
         have HCq:=aQ (And.intro hlq hCq)
         have HCp:=aQ (And.intro hlp hCp)
         clear g0 g1 g2 hlq hCq hlp hCp
         have HMk:=aQ (makes_calls (b:=w.heap.size) (n:=Go.Maps.size D') (says D') hp (by omega) Ap cp _ (Kd.C_below HCp.out.2 HSb.out.st.hB) HCp.out.1 HSb.out.st.own)
         cases hm:p.mkb (Sd D') with
         | false =>
          rw [hm] at HMk
          go_wp2_with fail
          refine HMk.out.mono ?_
          rintro e w59 ⟨rfl,hb59⟩
          have HSe:=aQ (StR.kept HSb.out hb59)
          clear hb59
          go_wp2
          go_roundw
          case rel=>exact ⟨_,cntn,L,HSe,⟨by have:=HLe.out;have:=HLt.out;omega⟩,HLd,⟨HVi.out.step (.shut p q hp hq) (fun _ h=>h) (fun p' q' e=>by cases e) (fun p' q' e hm'=>by cases e;rw [hm] at hm';cases hm')⟩⟩
          case measure=>rw [HSe.out.rg.left_eq,HMe.out.2.1];exact HLt.out
         | true =>
          rw [hm] at HMk
          have HM1:=aQ (mkb_sound HM'.out.sound hp hm)
          clear hm
          go_wp2_with fail
          refine HMk.out.mono ?_
          rintro e w59 ⟨rfl,hb59⟩
          have HSd:=aQ (StR.kept HSb.out hb59)
          have BK:=blk_below (blk_new wn (.cells #[.int .i64 2,.int .i64 0,.slice (some ad) 2 cy] 25 (0,0))) hb59
          have hb2:w59.cell? ⟨wn.heap.size,2,none⟩ = some (.slice (some ad) 2 cy):=(blk_cell BK 2).trans rfl
          have g0:=(HSd.out.st.hB.cell (p:=⟨ad.block,ad.off + 3,none⟩) hltw).trans HG.out.1
          have g1:=(HSd.out.st.hB.cell (p:=⟨ad.block,ad.off + 3 + 1,none⟩) hltw).trans HG.out.2.1
          have g2:=(HSd.out.st.hB.cell (p:=⟨ad.block,ad.off + 3 + 2,none⟩) hltw).trans HG.out.2.2
          clear hb59 h0 h1 h2 BK
          go_wp2_with (first
           | (at_builtin;refine Kd.R_append (Kd.fixed k25 w) (w0:=w) w.heap.size rfl (.tmp 61) (.tmp 66) 23 25 (.agg #[.int .i64 0,.int .i64 0,.slice none 0 0]) 40 rfl Tryd.underlying23 info25 rfl (show 0 < 3 from by decide) (by omega) u8 L q [.int .i64 q.f0,.int .i64 q.f1,.slice Aq q.f2.length cq] (fun _=>True) (fun _=>False) rfl rfl ?aP (fun _ h=>h.elim) (fun _ _=>trivial) HSd.out.fo HSd.out.st.hB HSd.out.st.hB.size ?aL ?_;(case aP=>exact k25_mk w q HCq.out.1 HCq.out.2);(case aL=>(have:=HLe.out;have:=HZ.out;have:=HN6.out;omega));intro v67 w67 hF hB hg ha;have HSe:=aQ (StR.append HSd.out hB hF hg ha);clear hF hB hg ha)
           | fail)
          go_roundw
          case rel=>exact ⟨_,cntn,L ++ [q],HSe,⟨by rw [List.length_append];have:=HLe.out;have:=HLt.out;simp;omega⟩,⟨fun z hz=>by
           rcases List.mem_append.1 hz with hz | hz
           ·exact HLd.out z hz
           ·simp only [List.mem_singleton] at hz
            rw [hz]
            exact ⟨hq,by omega,.open HD.out.2 HM1.out⟩⟩,⟨HVi.out.step (.shut p q hp hq) (fun _ h=>List.mem_append_left _ h) (fun p' q' e=>by cases e) (fun p' q' e _=>by cases e;simp)⟩⟩
          case measure=>rw [HSe.out.rg.left_eq,HMe.out.2.1];exact HLt.out
end Go.Proofs.YtbcjpdahdecehaaDoor.P
