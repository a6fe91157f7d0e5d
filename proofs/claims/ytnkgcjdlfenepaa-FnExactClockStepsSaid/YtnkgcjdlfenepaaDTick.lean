/- Steps whose terms lie apart; a row of steps of which the first ones are made anew. No condition. -/
import Derived.Test.YtnkgcjdlfenepaaDTree
namespace Go.Proofs.Ytnkgcjdlfenepaa.P
open Go.RowKit Go.Proofs.YtnkgcjdlfenepaaW.PrintWords Go.Proofs.YtnkgcjdlfenepaaW.PrintLast Go.Proofs.YtnkgcjdlfenepaaW.PrintMore
set_option linter.unusedVariables false
def q44:Kd S44:=Kd.iso (Kd.pair (Kd.int .i64) q29) (fun x:S44=>(x.f0,x.f1))
theorem q44_openM {w:World} {base:Nat} {ok:Nat → Prop} {x:S44} {cs:List Value} (h:q44.M w base ok x cs):∃ v3,cs = [.int .i64 x.f0,.int .i64 x.f1.f0,.int .i64 x.f1.f1,v3]∧Kd.S q29 29 w base ok v3 x.f1.f2:=by
 obtain ⟨_,_,rfl,rfl,h⟩:=h
 obtain ⟨v3,rfl,g3⟩:=q29_openM h
 exact ⟨v3,rfl,g3⟩
theorem q44_mkM (w:World) (base:Nat) (ok:Nat → Prop) (x:S44) {v3:Value} (g3:Kd.S q29 29 w base ok v3 x.f1.f2):q44.M w base ok x [.int .i64 x.f0,.int .i64 x.f1.f0,.int .i64 x.f1.f1,v3] :=
 ⟨[.int .i64 x.f0],[.int .i64 x.f1.f0,.int .i64 x.f1.f1,v3],rfl,rfl,q29_mkM w base ok x.f1 g3⟩
theorem q44_C {w:World} {A:Option Addr} {n:Nat} {xs:List S44} (h:q44.C w A n xs):k44.C w A n xs :=
 Kd.C_imp (d:=q44) (d':=k44) rfl (fun w x cs ⟨c0,c1,e,h0,n,h1⟩=>⟨c0,c1,e,h0,n,(q29_up n w x.f1 c1).1 h1⟩) h
theorem S44_reads {w:World} {base:Nat} {ok:Nat → Prop} {A:Option Addr} {n c:Nat} {xs:List S44} (h:Kd.S q44 44 w base ok (.slice A n c) xs):n = xs.length∧n ≤ c∧k44.C w A xs.length xs :=
 ⟨(Kd.S_reads' h).1,(Kd.S_reads' h).2.1,q44_C (Kd.S_reads' h).2.2⟩
def Half (w:World) (base g n cap:Nat) (xs:List S44) (i:Nat) (B:Nat → Nat):Prop :=
 base ≤ g∧g < B 0∧(∀ j,j < i → B j ≤ B (j + 1))∧B i ≤ w.heap.size∧∃ rows:List (List Value),rows.length = xs.length∧(Kd.raw 4).R 44 w base (fun k=>some k = (Value.slice (some ⟨g,0,none⟩) n cap).ownBlock) (.slice (some ⟨g,0,none⟩) n cap) rows ∧
  ∀ j x c,xs[j]? = some x → rows[j]? = some c → (j < i → q44.M w base (fun k=>B j ≤ k∧k < B (j + 1)) x c)∧(i ≤ j → Kd.FK k44 w (fun k=>k ≠ g) x c)
theorem Half_start {w:World} {base g n cap:Nat} {ok:Nat → Prop} {xs:List S44} (h:Kd.N k44 44 w base ok (.slice (some ⟨g,0,none⟩) n cap) xs):Half w base g n cap xs 0 (fun _=>w.heap.size):=by
 have hlt:=Kd.N_lt h g (by simp [Value.ownBlock])
 obtain ⟨h0,rows,hl,hR,hf⟩:=h
 refine ⟨Kd.R_base hR g (by simp [Value.ownBlock]),hlt,fun j hj=>by omega,Nat.le_refl _,rows,hl,hR,fun j x c hx hc=>⟨fun hj=>by omega,fun _=>Kd.FK_mono (hf j x c hx hc) (fun k hk he=>hk.2 (by rw [he];simp [Value.ownBlock]))⟩⟩
theorem B_mono {B:Nat → Nat} {i:Nat} (h:∀ j,j < i → B j ≤ B (j + 1)):∀ j,j ≤ i → ∀ m,m ≤ j → B m ≤ B j
 | 0,_,m,hm=>by
  have:m = 0:=by omega
  rw [this]
  exact Nat.le_refl _
 | j + 1,hj,m,hm=>by
  by_cases e:m = j + 1
  ·rw [e];exact Nat.le_refl _
  ·exact Nat.le_trans (B_mono h j (by omega) m (by omega)) (h j (by omega))
theorem Half_below {w w1:World} {base g n cap i:Nat} {xs:List S44} {B:Nat → Nat} (h:Half w base g n cap xs i B) (hb:Below w.heap.size w w1):Half w1 base g n cap xs i B:=by
 obtain ⟨h1,h2,h3,h4,rows,hl,hR,hf⟩:=h
 refine ⟨h1,h2,h3,Nat.le_trans h4 hb.size,rows,hl,Kd.R_step hR (fun k _ hk=>hb.block k hk),fun j x c hx hc=>⟨fun hj=>Kd.M_step ((hf j x c hx hc).1 hj) (fun k _ hk=>hb.block k hk),fun hj=>Kd.FK_step ((hf j x c hx hc).2 hj) (fun k _ hk=>hb.block k hk)⟩⟩
theorem Half_get {w:World} {base g n cap i:Nat} {xs:List S44} {B:Nat → Nat} (h:Half w base g n cap xs i B) (hi:i < xs.length) :
  n = xs.length∧∃ A c3,w.cell? ⟨g,i * 4,none⟩ = some (.int .i64 xs[i].f0)∧w.cell? ⟨g,i * 4 + 1,none⟩ = some (.int .i64 xs[i].f1.f0)∧w.cell? ⟨g,i * 4 + 2,none⟩ = some (.int .i64 xs[i].f1.f1)∧w.cell? ⟨g,i * 4 + 3,none⟩ = some (.slice A xs[i].f1.f2.length c3) ∧
   (∀ j,w.frozen? ⟨g,i * 4 + j,none⟩ = false)∧xs[i].f1.f2.length ≤ c3∧Kd.C k29 w A xs[i].f1.f2.length xs[i].f1.f2:=by
 obtain ⟨h1,h2,h3,h4,rows,hl,hR,hf⟩:=h
 have hn:=(Kd.R_reads' hR).1
 have hi':i < rows.length:=by omega
 obtain ⟨c,hcl,hM,hcc,hfr⟩:=Kd.R_elem hR ([]:List Value) (i:Int) (by omega) (by omega)
 rw [Int.toNat_natCast] at hcc hfr hM
 have hc:rows.getD i [] = rows[i]:=by rw [List.getD_eq_getElem?_getD,List.getElem?_eq_getElem hi'];rfl
 have hc':c = rows[i]:=by rw [← hc];exact hM.1
 have hF:=(hf i xs[i] rows[i] (List.getElem?_eq_getElem hi) (List.getElem?_eq_getElem hi')).2 (Nat.le_refl _)
 obtain ⟨A,c3,e,hle,hF3⟩:=k44_openF hF
 rw [hc',e] at hcc
 exact ⟨by omega,A,c3,hcc 0 _ rfl,hcc 1 _ rfl,hcc 2 _ rfl,hcc 3 _ rfl,hfr,hle,Kd.F_now hF3⟩
theorem Half_step {w w1:World} {base g n cap i:Nat} {xs:List S44} {B:Nat → Nat} (h:Half w base g n cap xs i B) (hi:i < xs.length) (hb:Below w.heap.size w w1) {v:Value} (hS:Kd.S q29 29 w1 base (fun k=>w.heap.size ≤ k) v xs[i].f1.f2) :
  (∃ B',Half (w1.setCells g (i * 4 + 1) [.int .i64 xs[i].f1.f0,.int .i64 xs[i].f1.f1,v]) base g n cap xs (i + 1) B')∧w1.grownBy (w1.setCells g (i * 4 + 1) [.int .i64 xs[i].f1.f0,.int .i64 xs[i].f1.f1,v]) (some g):=by
 obtain ⟨h1,h2,h3,h4,rows,hl,hR,hf⟩:=Half_below h hb
 have hBi:B i ≤ w.heap.size:=h.2.2.2.1
 have hn:=(Kd.R_reads' hR).1
 have hi':i < rows.length:=by omega
 obtain ⟨c,hcl,hM,hcc,hfr⟩:=Kd.R_elem hR ([]:List Value) (i:Int) (by omega) (by omega)
 have hF:=(hf i xs[i] rows[i] (List.getElem?_eq_getElem hi) (List.getElem?_eq_getElem hi')).2 (Nat.le_refl _)
 obtain ⟨A,c3,e,hle,hF3⟩:=k44_openF hF
 have hc:rows.getD (i:Int).toNat [] = rows[i]:=by rw [Int.toNat_natCast,List.getD_eq_getElem?_getD,List.getElem?_eq_getElem hi'];rfl
 have hc':c = [.int .i64 xs[i].f0,.int .i64 xs[i].f1.f0,.int .i64 xs[i].f1.f1,.slice A xs[i].f1.f2.length c3]:=by rw [← e,← hc];exact hM.1
 subst hc'
 obtain ⟨Av,cv,rfl⟩:=Kd.S_slice hS
 have hq:=Kd.R_seg hR (i:Int) (by omega) (by omega) (seg:=[.int .i64 xs[i].f1.f0,.int .i64 xs[i].f1.f1,.slice Av xs[i].f1.f2.length cv]) (j:=1) hcl hcc (show 4 ≤ 4 from by decide)
  (x':=[.int .i64 xs[i].f0,.int .i64 xs[i].f1.f0,.int .i64 xs[i].f1.f1,.slice Av xs[i].f1.f2.length cv]) (okp:=fun _=>False) ⟨rfl,rfl,by intro u hu;simp at hu;rcases hu with rfl | rfl | rfl | rfl <;> rfl⟩ (fun _ hk=>hk.elim)
 rw [Int.toNat_natCast] at hq
 obtain ⟨hq1,hq2⟩:=hq
 have hsz:w1.heap.size ≤ (w1.setCells g (i * 4 + 1) [.int .i64 xs[i].f1.f0,.int .i64 xs[i].f1.f1,.slice Av xs[i].f1.f2.length cv]).heap.size:=hq2.size
 have hB0:=B_mono h3
 obtain ⟨B',b1,b2⟩:∃ B':Nat → Nat,(∀ j,j ≤ i → B' j = B j)∧B' (i + 1) = w1.heap.size:=⟨fun j=>if j ≤ i then B j else w1.heap.size,fun j hj=>if_pos hj,if_neg (by omega)⟩
 refine ⟨⟨B',h1,by rw [b1 0 (by omega)];exact h2,fun j hj=>?_,by rw [b2];exact hsz,rows.set i _,by rw [List.length_set];exact hl,hq1,fun j x c hx hc=>⟨fun hj=>?_,fun hj=>?_⟩⟩,hq2⟩
 ·by_cases hji:j = i
  ·subst hji
   rw [b1 j (by omega),b2]
   exact h4
  ·rw [b1 j (by omega),b1 (j + 1) (by omega)]
   exact h3 j (by omega)
 ·by_cases hji:j = i
  ·subst hji
   rw [List.getElem?_set_self hi'] at hc
   rw [List.getElem?_eq_getElem hi] at hx
   cases hc
   cases hx
   rw [b1 j (by omega),b2]
   refine q44_mkM _ _ _ _ (Kd.S_step (Kd.S_mono (Kd.S_bound hS) (fun k hk=>⟨?_,?_⟩)) (fun k hk hlt=>hq2.block k hlt (fun he=>?_)))
   ·have:=hk.1;omega
   ·exact hk.2.2.1
   ·have h5:k = g:=by injection he
    have h6:=hk.1
    have:=hB0 j (Nat.le_refl _) 0 (by omega)
    omega
  ·rw [List.getElem?_set_ne (fun he=>hji he.symm)] at hc
   rw [b1 j (by omega),b1 (j + 1) (by omega)]
   have hm:=(hf j x c hx hc).1 (by omega)
   refine Kd.M_step hm (fun k hk hlt=>hq2.block k hlt (fun he=>?_))
   have h5:k = g:=by injection he
   have h6:=hk.1
   have:=hB0 j (by omega) 0 (by omega)
   omega
 ·rw [List.getElem?_set_ne (by omega)] at hc
  exact Kd.FK_step ((hf j x c hx hc).2 (by omega)) (fun k hk hlt=>hq2.block k hlt (fun he=>hk (by injection he)))
theorem Half_done {w:World} {base g n cap:Nat} {xs:List S44} {B:Nat → Nat} (h:Half w base g n cap xs xs.length B):Kd.S q44 44 w base (fun k=>base ≤ k) (.slice (some ⟨g,0,none⟩) n cap) xs:=by
 obtain ⟨h1,h2,h3,h4,rows,hl,⟨hok,inner,ho,hr⟩,hf⟩:=h
 have hB0:=B_mono h3
 have hrow:∀ j x,xs[j]? = some x → q44.M w base (fun k=>(B j ≤ k∧k < B (j + 1))∧j < xs.length) x ((inner.drop (j * 4)).take 4):=fun j x hx=>by
  have hj:j < xs.length:=(List.getElem?_eq_some_iff.1 hx).1
  have hj':j < rows.length:=by omega
  have hraw:=hr.2 j rows[j] (List.getElem?_eq_getElem hj')
  have hm:=(hf j x rows[j] hx (List.getElem?_eq_getElem hj')).1 hj
  have e:(inner.drop (j * 4)).take 4 = rows[j]:=hraw.1
  rw [e]
  exact q44.M_mono (fun k hk=>⟨hk,hj⟩) hm
 obtain ⟨f,hF⟩:=Kd.reps_tag (d:=q44) (w:=w) (base:=base) (ok:=fun k=>base ≤ k∧some k ≠ (Value.slice (some ⟨g,0,none⟩) n cap).ownBlock) (xs:=xs) (inner:=inner) (fun j k=>(B j ≤ k∧k < B (j + 1))∧j < xs.length)
  (fun i j k hi hj=>by
   rcases Nat.lt_trichotomy i j with h | h | h
   ·have:=hB0 j (by omega) (i + 1) (by omega);omega
   ·exact h
   ·have:=hB0 i (by omega) (j + 1) (by omega);omega)
  (fun j k hk=>by
   have:=hB0 j (by omega) 0 (by omega)
   refine ⟨by omega,fun he=>?_⟩
   have h5:k = g:=by simpa [Value.ownBlock] using he
   omega) (by rw [hr.1,hl];rfl) hrow
 refine ⟨f,fun k hk=>?_,inner,?_,hF⟩
 ·have h5:g = k:=by simpa [Value.ownBlock] using hk
  omega
 ·rw [List.length_zipIdx,← hl];exact ho
end Go.Proofs.Ytnkgcjdlfenepaa.P
