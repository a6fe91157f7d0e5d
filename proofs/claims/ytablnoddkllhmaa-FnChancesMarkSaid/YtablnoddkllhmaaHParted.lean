/- parted: the least of those before that are alike in class and numbers, whatever closure tells the numbers. No condition. -/
import Derived.Test.YtablnoddkllhmaaP0
import Derived.Test.YtablnoddkllhmaaP1
import Derived.Test.YtablnoddkllhmaaWKept
import Derived.Test.YtablnoddkllhmaaWApart
import Derived.Test.YtablnoddkllhmaaChOk
namespace Go.Proofs.Ytablnoddkllhmaa.P
open Go.RowKit Go.Proofs.YtablnoddkllhmaaW.PrintWords Go.Proofs.YtablnoddkllhmaaW.PrintLast Go.Proofs.YtablnoddkllhmaaW.PrintMore
set_option linter.unusedVariables false
set_option linter.unusedSimpArgs false
theorem eqP_l0 (xs ys:List Int) (hn:xs.length = ys.length) (hm:xs.length ≤ 1048576) (d:Nat):∀ i:Nat,i + d = xs.length → Ev (fun k=>slices_Equal_int_int.l0 k xs ys xs.length i) (decide (xs.drop i = ys.drop i)):=by
 induction d with
 | zero =>
  intro i hi
  rw [List.drop_eq_nil_of_le (by omega),List.drop_eq_nil_of_le (by omega)]
  refine Ev.step (f:=fun _=>some true) (fun k=>?_) (Ev.to (Ev.now true) (by simp))
  simp only [slices_Equal_int_int.l0]
  rw [if_neg (by omega)]
 | succ d ih =>
  intro i hi
  have h1:i < xs.length:=by omega
  have h2:i < ys.length:=by omega
  rw [List.drop_eq_getElem_cons h1,List.drop_eq_getElem_cons h2]
  by_cases e:xs[i] = ys[i]
  ·refine Ev.step (fun k=>?_) (Ev.to (ih (i + 1) (by omega)) (by rw [decide_eq_decide,List.cons.injEq];simp only [e,true_and]))
   simp only [slices_Equal_int_int.l0]
   rw [if_pos (by omega),if_pos (by omega),if_pos (by omega),if_pos (by omega),if_pos (by rw [rd_nat _ _ h1,rd_nat _ _ h2];exact e),wrap_succ h1 (by omega)]
  ·refine Ev.step (f:=fun _=>some false) (fun k=>?_) (Ev.to (Ev.now false) (decide_eq_false (fun h=>e (List.cons.inj h).1)).symm)
   simp only [slices_Equal_int_int.l0]
   rw [if_pos (by omega),if_pos (by omega),if_pos (by omega),if_pos (by omega),if_neg (by rw [rd_nat _ _ h1,rd_nat _ _ h2];exact e)]
theorem eqP_ev (xs ys:List Int) (hm:xs.length ≤ 1048576):Ev (fun k=>slices_Equal_int_int.f k xs ys) (decide (xs = ys)):=by
 by_cases h:xs.length = ys.length
 ·refine Ev.congr (fun k=>?_) (eqP_l0 xs ys h hm xs.length 0 (by omega))
  simp only [slices_Equal_int_int.f]
  rw [if_pos (by omega)]
  rfl
 ·refine Ev.congr (f:=fun _=>some false) (fun k=>?_) (Ev.to (Ev.now false) (by rw [decide_eq_false (fun e=>h (by rw [e]))]))
  simp only [slices_Equal_int_int.f]
  rw [if_neg (by omega)]
theorem equal_calls (A0:Option Addr) (c0:Nat) (xs:List Int) (A1:Option Addr) (c1:Nat) (ys:List Int) (w:World) (h0:Kd.C (Kd.int .i64) w A0 xs.length xs) (k0:xs.length ≤ c0) (h1:Kd.C (Kd.int .i64) w A1 ys.length ys) (k1:ys.length ≤ c1) (hm:xs.length ≤ 1048576) :
  Calls Try.prog 63 #[.slice A0 xs.length c0,.slice A1 ys.length c1] w fun e w'=>e = .returned (.bool (decide (xs = ys)))∧Drawn0 w w':=by
 obtain ⟨k,hk⟩:=(eqP_ev xs ys hm).rounds
 exact slices_Equal_int_int.calls k A0 c0 xs A1 c1 ys _ w h0 k0 h1 k1 hk
def leastP (cl:List Int) (f:Nat → List Int) (s:Nat):Nat → Nat → Nat
 | 0,_=>s
 | d + 1,r=>if rd cl r = rd cl s∧f r = f s then r else leastP cl f s d (r + 1)
def least (cl:List Int) (f:Nat → List Int) (s:Nat):Nat:=leastP cl f s s 0
def partP (cl:List Int) (f:Nat → List Int):List Int:=(List.range cl.length).map fun s=>(least cl f s:Int)
theorem C_stay {A:Option Addr} {n:Nat} {xs:List Int} {w w1:World} (h:Kd.C (Kd.int .i64) w A n xs) (hb:∀ ad,A = some ad → w1.heap[ad.block]? = w.heap[ad.block]?):Kd.C (Kd.int .i64) w1 A n xs:=by
 refine ⟨h.1,h.2.1,fun hn=>?_⟩
 obtain ⟨ad,e,hc⟩:=h.2.2 hn
 refine ⟨ad,e,fun j p hj=>?_⟩
 obtain ⟨c,hl,hk,hcell⟩:=hc j p hj
 refine ⟨c,hl,hk,fun i u hu=>(World.cell?_of_block ?_).trans (hcell i u hu)⟩
 have:(ad.add (j * (Kd.int .i64).sz + i)).block = ad.block:=by unfold Addr.add;split <;> rfl
 rw [this]
 exact hb ad e
structure AllAt (vo va:Value) (f:Nat → List Int) (s:Nat) (vs:List Value) (W:World):Prop where
 len:vs.length = s
 row:∀ i,i < s → ∃ A c,vs[i]? = some (.slice A (f i).length c)∧(f i).length ≤ c∧Kd.C (Kd.int .i64) W A (f i).length (f i)∧(∀ ad,A = some ad → ad.block < W.heap.size∧some ad.block ≠ vo.ownBlock∧some ad.block ≠ va.ownBlock)
theorem AllAt.move {vo va vb:Value} {f:Nat → List Int} {s:Nat} {vs:List Value} {W W1:World} (h:AllAt vo va f s vs W) (hs:W.heap.size ≤ W1.heap.size) (hk:∀ k,k < W.heap.size → some k ≠ vo.ownBlock → some k ≠ va.ownBlock → W1.heap[k]? = W.heap[k]?)
  (hv:vb.ownBlock = va.ownBlock ∨ ∃ b,vb.ownBlock = some b∧W.heap.size ≤ b):AllAt vo vb f s vs W1:=by
 refine ⟨h.len,fun i hi=>?_⟩
 obtain ⟨A,c,h1,h2,h3,h4⟩:=h.row i hi
 refine ⟨A,c,h1,h2,C_stay h3 (fun ad e=>hk _ (h4 ad e).1 (h4 ad e).2.1 (h4 ad e).2.2),fun ad e=>⟨Nat.lt_of_lt_of_le (h4 ad e).1 hs,(h4 ad e).2.1,?_⟩⟩
 rcases hv with hv | ⟨b,hb,hle⟩
 ·rw [hv];exact (h4 ad e).2.2
 ·rw [hb]
  intro hh
  have:=(h4 ad e).1
  injection hh with hh
  omega
theorem AllAt.below {vo va:Value} {f:Nat → List Int} {s:Nat} {vs:List Value} {W W1:World} (h:AllAt vo va f s vs W) (hb:Below W.heap.size W W1):AllAt vo va f s vs W1 :=
 h.move hb.size (fun k hk _ _=>hb.block k hk) (.inl rfl)
theorem AllAt.push {vo va:Value} {f:Nat → List Int} {s:Nat} {vs:List Value} {W:World} {A:Option Addr} {c:Nat} (h:AllAt vo va f s vs W) (h2:(f s).length ≤ c) (h3:Kd.C (Kd.int .i64) W A (f s).length (f s)) (h4:∀ ad,A = some ad → ad.block < W.heap.size∧some ad.block ≠ vo.ownBlock∧some ad.block ≠ va.ownBlock) :
  AllAt vo va f (s + 1) (vs ++ [.slice A (f s).length c]) W:=by
 have hl:=h.len
 refine ⟨by simp [hl],fun i hi=>?_⟩
 rcases Nat.lt_or_eq_of_le (Nat.le_of_lt_succ hi) with hi | rfl
 ·obtain ⟨A',c',h1,r⟩:=h.row i hi
  exact ⟨A',c',by rw [List.getElem?_append_left (by omega)];exact h1,r⟩
 ·exact ⟨A,c,by rw [List.getElem?_append_right (by omega),hl];simp,h2,h3,h4⟩
def Num (gf:Nat) (lb:Array Value) (n:Nat) (f:Nat → List Int) (w:World):Prop :=
 ∀ (s:Nat) (W:World),s < n → Below w.heap.size w W →
  Calls Try.prog gf (#[.int .i64 (s:Int)] ++ lb) W fun e w'=>∃ A c,e = .returned (.slice A (f s).length c)∧(f s).length ≤ c∧Kd.C (Kd.int .i64) w' A (f s).length (f s)∧(∀ ad,A = some ad → ad.block < w'.heap.size∧(ad.block < w.heap.size ∨ W.heap.size ≤ ad.block))∧Below W.heap.size W w'
structure Told (cl:List Int) (f:Nat → List Int) (s:Nat) (xs:List Int):Prop where
 len:xs.length = cl.length
 val:∀ i,i < s → xs[i]? = some (least cl f i:Int)
theorem Told.push {cl:List Int} {f:Nat → List Int} {s:Nat} {xs:List Int} (h:Told cl f s xs) (hs:s < cl.length) {v:Int} (hv:v = least cl f s):Told cl f (s + 1) (xs.set s v):=by
 have hl:=h.len
 refine ⟨by rw [List.length_set];exact h.len,fun i hi=>?_⟩
 rcases Nat.lt_or_eq_of_le (Nat.le_of_lt_succ hi) with hi | rfl
 ·rw [List.getElem?_set_ne (by omega)];exact h.val i hi
 ·rw [List.getElem?_set_self (by omega),hv]
theorem Told.all {cl:List Int} {f:Nat → List Int} {xs:List Int} (h:Told cl f cl.length xs):xs = partP cl f:=by
 apply List.ext_getElem?
 intro i
 have hl:=h.len
 by_cases hi:i < cl.length
 ·rw [h.val i hi]
  simp [partP,hi]
 ·rw [List.getElem?_eq_none (by omega),List.getElem?_eq_none (by simp [partP];omega)]
theorem cell_at {w:World} {b g n cap j:Nat} {vs:List Value} {u:Value} (h:w.ownsRow b 22 1 (.slice (some ⟨g,0,none⟩) n cap) n vs) (hu:vs[j]? = some u):w.cell? ⟨g,j,none⟩ = some u:=by
 have:=h.cells (g:=g) rfl j u hu
 have ha:(⟨g,0,none⟩:Addr).add j = ⟨g,j,none⟩:=by unfold Addr.add;split <;> simp_all
 rwa [ha] at this
theorem put_found {w wr W' w5:World} {go n co s s' m7:Nat} {v7:Value} {f:Nat → List Int} {vs:List Value} {xs:List Int} {r:Int} (hgo:w.heap.size ≤ go)
  (HA:wr.ownsRow w.heap.size 22 1 v7 m7 vs) (HL:AllAt (Value.slice (some ⟨go,0,none⟩) n co) v7 f s' vs wr) (HO:Kd.R (Kd.int .i64) 3 wr w.heap.size (fun _=>True) (Value.slice (some ⟨go,0,none⟩) n co) xs) (hx:0 < xs.length)
  (HB:Below w.heap.size w wr) (hw:w5 = W'.setCell ⟨go,s,none⟩ (.int .i64 r)) (hD:Below wr.heap.size wr W') :
  w5.ownsRow w.heap.size 22 1 v7 m7 vs∧AllAt (Value.slice (some ⟨go,0,none⟩) n co) v7 f s' vs w5∧Kd.R (Kd.int .i64) 3 w5 w.heap.size (fun _=>True) (Value.slice (some ⟨go,0,none⟩) n co) (xs.set s r)∧Below w.heap.size w w5:=by
 have hA:=pw_own_below HA hD
 have hL:=HL.below hD
 have hO:=Kd.R_below HO hD
 obtain ⟨_,_,eo2,_,_,cells2_,HG2⟩:=Kd.R_form hO hx
 cases eo2
 have hne:=own_ne hA HG2 (by decide)
 have HP:=Kd.R_putg hO (s:Int) r
 simp only [Int.toNat_natCast] at HP
 subst hw
 exact ⟨own_other hA HP.2 (.inr (fun e=>hne e.symm)),hL.move HP.2.size (fun k hk h1 h2=>HP.2.block k hk h1) (.inl rfl),HP.1,below_set (below_step HB hD) hgo⟩
set_option maxHeartbeats 8000000 in
set_option maxRecDepth 100000 in
theorem parted_calls (gf:Nat) (lb:Array Value) (eg:∀ args w,(callFunc gf args).run Try.prog w = .ok (.enter gf args) w) (f:Nat → List Int) (A0:Option Addr) (c0:Nat) (cl:List Int) (w:World) (hnum:Num gf lb cl.length f w)
  (hr:Kd.C (Kd.int .i64) w A0 cl.length cl) (hc:cl.length ≤ c0) (hn:cl.length ≤ 60) (hf:∀ s,s < cl.length → (f s).length ≤ 1048576) :
  Calls Try.prog 60 #[.slice A0 cl.length c0,.func (.func gf) #[] lb] w fun e w'=>∃ v,e = .returned v∧Kd.R (Kd.int .i64) 3 w' w.heap.size (fun _=>True) v (partP cl f)∧Below w.heap.size w w':=by
 have HR:=Aside0.mk hr
 have HN:=Aside0.mk hnum
 have HF:=Aside0.mk hf
 clear hr hnum hf
 go_enter Try.func60,Try.ntmps60
 go_wp2_with (first | ((with_reducible refine gate_dst (N:=11) rfl ?_);refine Kd.R_make (Kd.int .i64) _ 3 rfl (N:=11) rfl 22 _ _ rfl (cl.length:Int) rfl rfl Try.underlying22 (.int .i64 0) 8 info3 rfl (by decide) (by omega) 0 (ok:=fun _=>True) (okp:=fun _=>True) rfl (fun _ hk=>hk) trivial (by omega) (by simp;omega) (Below.refl _ _) (Nat.le_refl _) ?_;intro vo w1 ho hb hg_ hnew_;clear hg_ hnew_;have HO:=Aside0.mk ho;have HB:=Aside0.mk hb;clear ho hb) | ((with_reducible refine gate_dst (N:=12) rfl ?_);refine Kd.R_lit (Kd.slice 3 (Kd.int .i64)) _ 22 ?hg (N:=12) ?hd (xs:=([]:List (List Int))) (inner:=[]) (ok:=fun _=>True) (okp:=fun _=>True) ?hr ?hp (fun _ hk=>hk) trivial (Below.refl _ _) (Nat.le_refl _) (by simp) ?_;(case hd=>rfl);(case hg=>rfl);(case hr=>first | (go_simp;done) | (go_simp;rfl));(case hp=>exact (Reps.none _ _));intro va w2 ho hb hg_ hnew_;clear hg_ hnew_;have n0_:=Aside0.mk (Kd.R_lower (Kd.R_below HO.out hb) (Nat.le_refl _));have n1_:=Aside0.mk (below_step HB.out hb);obtain ⟨inner_,hown_,hrep_⟩:=ho.2;have hown2_:=own_weaken hown_ HB.out.size;obtain rfl:inner_ = []:=List.eq_nil_of_length_eq_zero (by have:=hown_.1;simpa using this);have HA:=Aside0.mk hown2_;clear HO HB ho hb hown_ hown2_ hrep_;have HO:=n0_;have HB:=n1_;clear n0_ n1_))
 go_loopg [6,15] cl.length (fun g v6 v15 W=>∃ (s:Nat) (vs:List Value) (xs:List Int),s ≤ cl.length∧cl.length - s ≤ g∧v15 = .int .i64 (s:Int)∧Aside0 (W.ownsRow w.heap.size 22 1 v6 vs.length vs)∧Aside0 (AllAt vo v6 f s vs W)∧Aside0 (Told cl f s xs)∧Aside0 (Kd.R (Kd.int .i64) 3 W w.heap.size (fun _=>True) vo xs)∧Aside0 (Below w.heap.size w W))
 case atStart=>exact ⟨0,[],_,Nat.zero_le _,Nat.le_refl _,rfl,HA,⟨⟨rfl,fun i hi=>by omega⟩⟩,⟨⟨by simp,fun i hi=>by omega⟩⟩,HO,HB⟩
 case round =>
  clear HA HO HB
  obtain ⟨s,vs,xs,hs,hg,rfl,HA,HL,HT,HO,HB⟩:=hrel
  by_cases hlt:s < cl.length
  ·have c1:decide ((s:Int) < (cl.length:Int)) = true:=decide_eq_true (by omega)
   have c2:decide (s < cl.length) = true:=decide_eq_true hlt
   have hcall:=HN.out s wr hlt HB.out
   have hxl:=HT.out.len
   obtain ⟨go,co,eo,gb,gl,cells_,HG⟩:=Kd.R_form HO.out (by omega)
   subst eo
   have HNE:=Aside0.mk (own_ne HA.out HG (by decide))
   have GB:=Aside0.mk gb
   have GL:=Aside0.mk gl
   have p1:(0 ≤ (s:Int)) = True:=eq_true (by omega)
   have p2:((s:Int) < (xs.length:Int)) = True:=eq_true (by omega)
   have p3:decide (s < xs.length) = true:=decide_eq_true (by omega)
   have p4:decide ((s:Int) < (xs.length:Int)) = true:=decide_eq_true (by omega)
   have HX:=Aside0.mk hxl
   have HC:=Aside0.mk hcall
   clear gb gl hxl HG hcall
   go_wp2_with (first | ((with_reducible refine HC.out.mono ?_);rintro e w3 ⟨A,c,rfl,hA1,hA2,hA3,hb⟩;have n0_:=Aside0.mk (pw_own_below HA.out hb);have n1_:=Aside0.mk ((HL.out.below hb).push hA1 hA2 (fun ad he=>⟨(hA3 ad he).1,by have:=(hA3 ad he).2;have:=GB.out;have:=GL.out;simp only [Value.ownBlock];intro hh;injection hh with hh;omega,by intro hh;have h5:=own_base HA.out _ hh.symm;have h6:=own_lt HA.out _ hh.symm;have:=(hA3 ad he).2;omega⟩));have n2_:=Aside0.mk (Kd.R_below HO.out hb);have n3_:=Aside0.mk (below_step HB.out hb);have n4_:=Aside0.mk (show go < w3.heap.size from Nat.lt_of_lt_of_le GL.out hb.size);clear HL HO HB GL;have HL:=n1_;have HO:=n2_;have HB:=n3_;have GL:=n4_;have HA3:=n0_;clear n0_ n1_ n2_ n3_ n4_ hA1 hA2 hA3 hb) | ((with_reducible refine gate_builtin (b:=.append) (xs:=#[.tmp 18,.tmp 22]) rfl ?_);at_builtin;refine print_append (w0:=w) w.heap.size rfl (.tmp 18) (.tmp 22) 23 22 (.slice none 0 0) 24 rfl Try.underlying23 info22 rfl (by decide) _ vs (.slice A (f s).length c) rfl rfl rfl HA3.out HB.out (below_size HB.out) (by have:=HL.out.len;simp at this;omega) ?_;intro v7 w4 hown hB2 hg_ hat;obtain ⟨m7,hm7⟩:∃ m,m = s + 1:=⟨_,rfl⟩;have n0_:=Aside0.mk (show w4.ownsRow w.heap.size 22 1 v7 m7 (vs ++ [Value.slice A (f s).length c]) from (by rw [hm7,← HL.out.len];exact hown));have HM:=Aside0.mk hm7;clear hm7;have n1_:=Aside0.mk (HL.out.move hg_.size (fun k hk h1 h2=>hg_.block k hk h2) hat);have n2_:=Aside0.mk (Kd.R_mono (ok':=fun _=>True) (Kd.R_step (Kd.R_tight rfl HO.out) (fun k hk hlt_=>hg_.block k hlt_ (fun e=>HNE.out (hk.symm.trans e)))) (fun _ _=>trivial));have n3_:=Aside0.mk hB2;clear HL HO HB HA HA3 HNE;have HA:=n0_;have HL:=n1_;have HO:=n2_;have HB:=n3_;clear n0_ n1_ n2_ n3_ hown hB2 hg_ hat;obtain ⟨_,_,eo2,_,_,cells2_,HG2⟩:=Kd.R_form HO.out (by have:=HX.out;omega);cases eo2;have HNE:=Aside0.mk (own_ne HA.out HG2 (by decide));clear HG2 cells2_;obtain ⟨hx0,hf0⟩:=Kd.R_celln 0 HO.out (s:Int) (by omega) (by have:=HX.out;omega);have HP:=Kd.R_putg HO.out (s:Int) (s:Int);simp only [Int.toNat_natCast] at hx0 hf0 HP) | ((with_reducible refine gate_store (t:=3) (p:=27) rfl ?_);refine store_event (t:=3) (p:=27) (v:=?vo1_) (w1:=(w4.setCell ⟨go,s,none⟩ (.int .i64 (s:Int)))) ?hg ?ho ?hn ?hr ?_;(case ho=>rfl);(case hg=>rfl);(case hn=>rfl);(case hr=>first | (go_simp;done) | (go_simp;rfl));intro w5 hw;obtain ⟨f1_,f2_,f3_,f4_⟩:=put_found GB.out HA.out HL.out HO.out (by have:=HX.out;omega) HB.out hw (Below.refl _ _);have n0_:=Aside0.mk f3_;have n1_:=Aside0.mk f1_;have n2_:=Aside0.mk f2_;have n3_:=Aside0.mk f4_;clear f1_ f2_ f3_ f4_;clear HO HA HL HB hx0 hf0 HP;have HO:=n0_;have HA:=n1_;have HL:=n2_;have HB:=n3_;clear n0_ n1_ n2_ n3_ hw))
   go_loopg [8] s (fun g8 v8 W=>∃ r:Nat,r ≤ s∧s - r ≤ g8∧v8 = .int .i64 (r:Int)∧Aside0 (leastP cl f s (s - r) r = least cl f s)∧Aside0 (W.ownsRow w.heap.size 22 1 v7 m7 (vs ++ [Value.slice A (f s).length c]))∧Aside0 (AllAt (Value.slice (some ⟨go,0,none⟩) xs.length co) v7 f (s + 1) (vs ++ [Value.slice A (f s).length c]) W)∧Aside0 (Kd.R (Kd.int .i64) 3 W w.heap.size (fun _=>True) (Value.slice (some ⟨go,0,none⟩) xs.length co) (xs.set s (s:Int)))∧Aside0 (Below w.heap.size w W))
   case atStart=>exact ⟨0,Nat.zero_le _,Nat.le_refl _,rfl,⟨rfl⟩,HA,HL,HO,HB⟩
   case round =>
    clear HA HL HO HB
    obtain ⟨r,hrs,hg8,rfl,HW,HA,HL,HO,HB⟩:=hrel
    by_cases h8:r < s
    ·have d1:decide ((r:Int) < (s:Int)) = true:=decide_eq_true (by omega)
     have d2:decide (r < s) = true:=decide_eq_true h8
     obtain ⟨ad,e2,h0⟩:=Kd.at_int HR.out (r:Int) (by omega) (by omega)
     obtain ⟨ad',e3,h1⟩:=Kd.at_int HR.out (s:Int) (by omega) (by omega)
     obtain rfl:ad = ad':=by rw [e2] at e3;injection e3
     clear e3
     cases e2
     replace h0:=(HB.out.cell (World.block_lt_of_cell? w _ h0)).trans h0
     replace h1:=(HB.out.cell (World.block_lt_of_cell? w _ h1)).trans h1
     simp only [Int.toNat_natCast] at h0 h1
     obtain ⟨ga,cap,ea,_,_⟩:=HA.out.form (by have:=HM.out;omega)
     subst ea
     obtain ⟨A1,k1,q1,l1,C1,_⟩:=HL.out.row r (by omega)
     obtain ⟨A2,k2,q2,l2,C2,_⟩:=HL.out.row s (by omega)
     have x1:=cell_at HA.out q1
     have x2:=cell_at HA.out q2
     obtain ⟨hx0,hf0⟩:=Kd.R_celln 0 HO.out (s:Int) (by omega) (by have:=HX.out;omega)
     simp only [Int.toNat_natCast] at hx0 hf0
     have C1:=Aside0.mk C1
     have C2:=Aside0.mk C2
     have Q1:=Aside0.mk l1
     have Q2:=Aside0.mk l2
     have HFr:=Aside0.mk (HF.out r (by omega))
     clear l1 l2 q1 q2
     have hm7:=HM.out
     have u1:(0 ≤ (r:Int)) = True:=eq_true (by omega)
     have u2:((r:Int) < (cl.length:Int)) = True:=eq_true (by omega)
     have u3:((s:Int) < (cl.length:Int)) = True:=eq_true (by omega)
     have u4:((r:Int) < (m7:Int)) = True:=eq_true (by omega)
     have u5:((s:Int) < (m7:Int)) = True:=eq_true (by omega)
     have u6:decide (r < cl.length) = true:=decide_eq_true (by omega)
     have u7:decide (r < m7) = true:=decide_eq_true (by omega)
     have u8:decide (s < m7) = true:=decide_eq_true (by omega)
     have HM7:=Aside0.mk hm7
     clear hm7
     have hsl:s - r = (s - (r + 1)) + 1:=by omega
     by_cases he:rd cl (r:Int) = rd cl (s:Int)
     ·have b1:(rd cl (r:Int) == rd cl (s:Int)) = true:=beq_iff_eq.2 he
      by_cases hff:f r = f s
      ·have HE:=Aside0.mk (fun (W:World) (h1:Kd.C (Kd.int .i64) W A1 (f r).length (f r)) (h2:Kd.C (Kd.int .i64) W A2 (f s).length (f s))=>(by have:=equal_calls A1 k1 (f r) A2 k2 (f s) W h1 Q1.out h2 Q2.out HFr.out;rw [decide_eq_true hff] at this;exact this:Calls Try.prog 63 #[.slice A1 (f r).length k1,.slice A2 (f s).length k2] W fun e w'=>e = .returned (.bool true)∧Drawn0 W w'))
       have HV:=Aside0.mk (show (r:Int) = (least cl f s:Int) from by have:=HW.out;rw [hsl,leastP,if_pos ⟨he,hff⟩] at this;omega)
       clear he hff hsl HW
       go_wp2_with (first | (go_at_call 63;(with_reducible refine (HE.out _ ?side1 ?side2).mono ?_);(case side1=>repeat (first | exact C1.out | (with_reducible refine Kd.C_drewN ?_ _) | (with_reducible refine Kd.C_drew ?_)));(case side2=>repeat (first | exact C2.out | (with_reducible refine Kd.C_drewN ?_ _) | (with_reducible refine Kd.C_drew ?_)));rintro e w' ⟨rfl,⟨nd,rfl⟩⟩;(try first | exact ⟨rfl,_,World.drewN_drewN _ _ _⟩ | exact ⟨rfl,_,Eq.trans (World.drewN_drewN _ _ _) (congrArg (World.drewN _) (Nat.add_assoc _ _ _))⟩ | exact ⟨rfl,_,rfl⟩)))
       repeat (go_quiet (first | (go_at_call 63;(with_reducible refine (HE.out _ ?side1 ?side2).mono ?_);(case side1=>repeat (first | exact C1.out | (with_reducible refine Kd.C_drewN ?_ _) | (with_reducible refine Kd.C_drew ?_)));(case side2=>repeat (first | exact C2.out | (with_reducible refine Kd.C_drewN ?_ _) | (with_reducible refine Kd.C_drew ?_)));rintro e w' ⟨rfl,⟨nd,rfl⟩⟩;(try first | exact ⟨rfl,_,World.drewN_drewN _ _ _⟩ | exact ⟨rfl,_,Eq.trans (World.drewN_drewN _ _ _) (congrArg (World.drewN _) (Nat.add_assoc _ _ _))⟩ | exact ⟨rfl,_,rfl⟩)));try go_wp2_with (first | ((with_reducible refine gate_store (t:=3) (p:=56) rfl ?_);refine store_event (t:=3) (p:=56) (v:=?vo2_) (w1:=?w12_) ?hg ?ho ?hn ?hr ?_;(case ho=>rfl);(case hg=>rfl);(case hn=>rfl);(case hr=>first | (go_simp;done) | (go_simp;rfl));intro w5 hw;obtain ⟨f1_,f2_,f3_,f4_⟩:=put_found (r:=(r:Int)) (s:=s) GB.out HA.out HL.out HO.out (by rw [List.length_set];have:=HX.out;omega) HB.out hw (by repeat (first | exact Below.refl _ _ | apply pw_below_drewN | apply below_drew1));clear hw)))
       go_roundg (cl.length - (s + 1))
       case measure=>omega
       case rel=>exact ⟨s + 1,_,(xs.set s (s:Int)).set s (r:Int),by omega,by omega,by go_num,⟨by rw [HL.out.len.trans HM7.out.symm];exact f1_⟩,⟨f2_⟩,⟨by rw [List.set_set];exact HT.out.push (by omega) HV.out⟩,⟨f3_⟩,⟨f4_⟩⟩
      ·have HE:=Aside0.mk (fun (W:World) (h1:Kd.C (Kd.int .i64) W A1 (f r).length (f r)) (h2:Kd.C (Kd.int .i64) W A2 (f s).length (f s))=>(by have:=equal_calls A1 k1 (f r) A2 k2 (f s) W h1 Q1.out h2 Q2.out HFr.out;rw [decide_eq_false hff] at this;exact this:Calls Try.prog 63 #[.slice A1 (f r).length k1,.slice A2 (f s).length k2] W fun e w'=>e = .returned (.bool false)∧Drawn0 W w'))
       have HV:=Aside0.mk (show leastP cl f s (s - (r + 1)) (r + 1) = least cl f s from by have:=HW.out;rw [hsl,leastP,if_neg (fun h=>hff h.2)] at this;exact this)
       clear he hff hsl HW
       go_wp2_with (first | (go_at_call 63;(with_reducible refine (HE.out _ ?side1 ?side2).mono ?_);(case side1=>repeat (first | exact C1.out | (with_reducible refine Kd.C_drewN ?_ _) | (with_reducible refine Kd.C_drew ?_)));(case side2=>repeat (first | exact C2.out | (with_reducible refine Kd.C_drewN ?_ _) | (with_reducible refine Kd.C_drew ?_)));rintro e w' ⟨rfl,⟨nd,rfl⟩⟩;(try first | exact ⟨rfl,_,World.drewN_drewN _ _ _⟩ | exact ⟨rfl,_,Eq.trans (World.drewN_drewN _ _ _) (congrArg (World.drewN _) (Nat.add_assoc _ _ _))⟩ | exact ⟨rfl,_,rfl⟩)))
       repeat (go_quiet (first | (go_at_call 63;(with_reducible refine (HE.out _ ?side1 ?side2).mono ?_);(case side1=>repeat (first | exact C1.out | (with_reducible refine Kd.C_drewN ?_ _) | (with_reducible refine Kd.C_drew ?_)));(case side2=>repeat (first | exact C2.out | (with_reducible refine Kd.C_drewN ?_ _) | (with_reducible refine Kd.C_drew ?_)));rintro e w' ⟨rfl,⟨nd,rfl⟩⟩;(try first | exact ⟨rfl,_,World.drewN_drewN _ _ _⟩ | exact ⟨rfl,_,Eq.trans (World.drewN_drewN _ _ _) (congrArg (World.drewN _) (Nat.add_assoc _ _ _))⟩ | exact ⟨rfl,_,rfl⟩)));try go_wp2_with (first | (go_at_call 63;(with_reducible refine (HE.out _ ?side1 ?side2).mono ?_);(case side1=>repeat (first | exact C1.out | (with_reducible refine Kd.C_drewN ?_ _) | (with_reducible refine Kd.C_drew ?_)));(case side2=>repeat (first | exact C2.out | (with_reducible refine Kd.C_drewN ?_ _) | (with_reducible refine Kd.C_drew ?_)));rintro e w' ⟨rfl,⟨nd,rfl⟩⟩;(try first | exact ⟨rfl,_,World.drewN_drewN _ _ _⟩ | exact ⟨rfl,_,Eq.trans (World.drewN_drewN _ _ _) (congrArg (World.drewN _) (Nat.add_assoc _ _ _))⟩ | exact ⟨rfl,_,rfl⟩))))
       go_roundg (s - (r + 1))
       case measure=>omega
       case rel=>exact ⟨r + 1,by omega,by omega,by go_num,HV,⟨pw_own_below HA.out (by repeat (first | exact Below.refl _ _ | apply pw_below_drewN | apply below_drew1))⟩,⟨HL.out.below (by repeat (first | exact Below.refl _ _ | apply pw_below_drewN | apply below_drew1))⟩,⟨Kd.R_below HO.out (by repeat (first | exact Below.refl _ _ | apply pw_below_drewN | apply below_drew1))⟩,⟨below_step HB.out (by repeat (first | exact Below.refl _ _ | apply pw_below_drewN | apply below_drew1))⟩⟩
     ·have b1:(rd cl (r:Int) == rd cl (s:Int)) = false:=beq_eq_false_iff_ne.2 he
      have HV:=Aside0.mk (show leastP cl f s (s - (r + 1)) (r + 1) = least cl f s from by have:=HW.out;rw [hsl,leastP,if_neg (fun h=>he h.1)] at this;exact this)
      clear he hsl HW
      go_wp2
      go_quiet (fail)
      go_wp2
      go_roundg (s - (r + 1))
      case measure=>omega
      case rel=>exact ⟨r + 1,by omega,by omega,by go_num,HV,⟨pw_own_below HA.out (by repeat (first | exact Below.refl _ _ | apply pw_below_drewN | apply below_drew1))⟩,⟨HL.out.below (by repeat (first | exact Below.refl _ _ | apply pw_below_drewN | apply below_drew1))⟩,⟨Kd.R_below HO.out (by repeat (first | exact Below.refl _ _ | apply pw_below_drewN | apply below_drew1))⟩,⟨below_step HB.out (by repeat (first | exact Below.refl _ _ | apply pw_below_drewN | apply below_drew1))⟩⟩
    ·have d1:decide ((r:Int) < (s:Int)) = false:=decide_eq_false (by omega)
     have d2:decide (r < s) = false:=decide_eq_false h8
     obtain rfl:r = s:=by omega
     have HV:=Aside0.mk (show ((r:Nat):Int) = (least cl f r:Int) from by have:=HW.out;rw [Nat.sub_self,leastP] at this;omega)
     clear HW h8
     go_wp2
     go_roundg (cl.length - (r + 1))
     case measure=>omega
     case rel=>exact ⟨r + 1,_,xs.set r (r:Int),by omega,by omega,by go_num,⟨by have h:=HA.out;rw [HM.out,← HL.out.len] at h;exact h⟩,HL,⟨HT.out.push (by omega) HV.out⟩,HO,HB⟩
  ·have c1:decide ((s:Int) < (cl.length:Int)) = false:=decide_eq_false (by omega)
   have c2:decide (s < cl.length) = false:=decide_eq_false hlt
   obtain rfl:s = cl.length:=by omega
   clear hlt hg hs
   go_wp2
   go_ret
   exact ⟨_,rfl,by have:=HT.out.all;rw [← this];exact HO.out,HB.out⟩
end Go.Proofs.Ytablnoddkllhmaa.P
