/- Rows of elements that hold rows, no two of which lead to one block, at every depth: a kind of its own. No condition. -/
import Derived.Test.YtnkgcjdlfenepaaCut
namespace Go.Proofs.Ytnkgcjdlfenepaa.P
open Go.RowKit Go.Proofs.YtnkgcjdlfenepaaW.PrintWords Go.Proofs.YtnkgcjdlfenepaaW.PrintLast Go.Proofs.YtnkgcjdlfenepaaW.PrintMore
set_option linter.unusedVariables false
def sliceS {α:Type} (e:Nat) (d:Kd α):Kd (List α) where
 sz:=1
 E:=e :: d.E
 K:=(Kd.slice e d).K
 M:=fun w base ok xs cs=>∃ v,cs = [v]∧Kd.S d e w base ok v xs
 K_len:=(Kd.slice e d).K_len
 K_one:=(Kd.slice e d).K_one
 K_below:=(Kd.slice e d).K_below
 K_of_M:=by
  rintro w base ok x cs ⟨v,rfl,h⟩
  obtain ⟨A,c,rfl,hl,hr⟩:=Kd.S_reads h
  exact ⟨A,c,rfl,hl,hr⟩
 M_mono:=by
  rintro w base ok ok' x cs hok ⟨v,rfl,h⟩
  exact ⟨v,rfl,Kd.S_mono h hok⟩
 M_bound:=by
  rintro w base ok x cs ⟨v,rfl,h⟩
  exact ⟨v,rfl,Kd.S_bound h⟩
 M_move:=by
  rintro w w1 base ok x cs hm ⟨v,rfl,h⟩
  exact ⟨v,rfl,Kd.S_move h hm⟩
 M_lower:=by
  rintro w base base' ok x cs hb ⟨v,rfl,h⟩
  exact ⟨v,rfl,Kd.S_lower h hb⟩
theorem S_imp {α:Type} {d d':Kd α} (hs:d.sz = d'.sz) (h:∀ w base ok x cs,d.M w base ok x cs → d'.M w base ok x cs) {e:Nat} {w:World} {base:Nat} {ok:Nat → Prop} {v:Value} {xs:List α} (hr:Kd.S d e w base ok v xs):Kd.S d' e w base ok v xs:=by
 obtain ⟨f,hr⟩:=hr
 exact ⟨f,Kd.R_imp (d:=Kd.tag f d) (d':=Kd.tag f d') hs (fun w base ok x cs hp=>h _ _ _ _ _ hp) hr⟩
theorem mono_sliceS {α β:Type} (e:Nat) {G:Kd α → Kd β} (hG:Kd.Mono G):Kd.Mono (fun d=>sliceS e (G d)):=by
 refine ⟨fun _ _ _=>rfl,?_,?_⟩
 ·rintro d d' hs h w x cs ⟨A,c,rfl,hl,hr⟩
  exact ⟨A,c,rfl,hl,Kd.C_imp (hG.sz d d' hs) (hG.K d d' hs h) hr⟩
 ·rintro d d' hs h w base ok x cs ⟨v,rfl,hr⟩
  exact ⟨v,rfl,S_imp (hG.sz d d' hs) (hG.M d d' hs h) hr⟩
theorem sub_sliceS {α β:Type} {E:List Nat} (e:Nat) {G:Kd α → Kd β} (he:e ∈ E) (hG:Kd.Sub G E):Kd.Sub (fun d=>sliceS e (G d)) E:=fun d h q hq=>by
 rcases List.mem_cons.1 hq with rfl | hq
 ·exact he
 ·exact hG d h q hq
section
variable {α:Type} {F:Kd α → Kd α} {sz:Nat} {E:List Nat} {hs:∀ n,(Kd.upto F sz E n).sz = sz} {hE:∀ n q,q ∈ (Kd.upto F sz E n).E → q ∈ E}
theorem fix_S {n:Nat} {e:Nat} {w:World} {base:Nat} {ok:Nat → Prop} {v:Value} {xs:List α} (h:Kd.S (Kd.upto F sz E n) e w base ok v xs):Kd.S (Kd.fix F sz E hs hE) e w base ok v xs:=S_imp (d':=Kd.fix F sz E hs hE) (hs n) (fun w base ok x cs hp=>(⟨n,hp⟩:∃ n,(Kd.upto F sz E n).M w base ok x cs)) h
theorem fix_S_back (hm:Kd.Mono F) {e:Nat} {w:World} {base:Nat} {ok:Nat → Prop} {v:Value} {xs:List α} (h:Kd.S (Kd.fix F sz E hs hE) e w base ok v xs):∃ n,Kd.S (Kd.upto F sz E n) e w base ok v xs:=by
 obtain ⟨f,h0,inner,ho,hr⟩:=h
 obtain ⟨N,hN⟩:=Kd.reps_bounded (R:=fun n (p:α × Nat) c=>(Kd.upto F sz E n).M w base (fun k=>(ok k∧some k ≠ v.ownBlock)∧f k = p.2) p.1 c) (fun n m p c hnm hp=>Kd.upto_M_le hm hs hnm hp) hr
 refine ⟨N,f,h0,inner,?_,?_⟩
 ·show w.ownsRow base e (Kd.upto F sz E N).sz v _ inner
  rw [hs N];exact ho
 ·show Reps _ (Kd.upto F sz E N).sz _ inner
  rw [hs N];exact hN
end
theorem nS {α:Type} {d:Kd α} {e base:Nat} {w w':World} {ok:Nat → Prop} {v:Value} {xs:List α} (h:Kd.S d e w base ok v xs) (r:Rch w w':=by repeat (with_reducible first | exact Rch.refl _ | apply Rch.alloc | apply Rch.drewN | apply Rch.drew)):Kd.S d e w' base ok v xs:=by
 induction r with
 | refl=>exact h
 | alloc _ o ih=>exact Kd.S_alloc ih o
 | drewN _ n ih=>exact Kd.S_drewN ih n
 | drew _ ih=>exact Kd.S_drew ih
section
variable {α:Type} {d:Kd α} {e base:Nat} {W W1:World} {v:Value} {xs:List α} {g n cap:Nat}
theorem S_hole {ok:Nat → Prop} (h:Kd.S d e W base ok v xs) (hb:Below W.heap.size W W1):Kd.S d e W1 base (fun k_=>(ok k_ ∨ W.heap.size ≤ k_)∧¬ (W.heap.size ≤ k_)) v xs :=
 Kd.S_below (Kd.S_mono (Kd.S_bound h) (fun _ hk=>⟨.inl hk.1,by have:=hk.2.2.1;omega⟩)) hb
theorem S_ok {ok:Nat → Prop} (h:Kd.S d e W base ok (.slice (some ⟨g,0,none⟩) n cap) xs):ok g:=by
 obtain ⟨_,h0,_⟩:=h
 exact h0 g (by simp [Value.ownBlock])
theorem S_fresh_seg {ok:Nat → Prop} (h:Kd.S d e W base ok (.slice (some ⟨g,0,none⟩) n cap) xs) (hb:Below W.heap.size W W1) (z:α) (i:Int) (h0:0 ≤ i) (h1:i < n) {seg:List Value} (hl:seg.length = d.sz) {x':α}
  (hM:d.M W1 base (fun k=>W.heap.size ≤ k) x' seg) :
  Kd.S d e (W1.setCells g (i.toNat * d.sz + 0) seg) base (fun k=>ok k ∨ W.heap.size ≤ k) (.slice (some ⟨g,0,none⟩) n cap) (xs.set i.toNat x')∧W1.grownBy (W1.setCells g (i.toNat * d.sz + 0) seg) (some g):=by
 have hS:=S_hole h hb
 have hg:=(S_ok hS).2
 obtain ⟨oki,c,hcl,_,_,_,_,hH⟩:=Kd.S_elem hS z i h0 h1
 refine Kd.S_seg (okg:=fun k=>W.heap.size ≤ k) hH h0 h1 (by omega) (okp:=fun k=>W.heap.size ≤ k) ?_ (fun _ hk=>.inr hk) (fun k hk=>⟨.inr hk,fun he=>hg (he ▸ hk)⟩)
 rw [List.take_zero,List.nil_append,List.drop_eq_nil_of_le (by omega),List.append_nil]
 exact hM
theorem H_cells {ok oki:Nat → Prop} {i:Int} {c:List Value} (h:Kd.H d e W base ok (.slice (some ⟨g,0,none⟩) n cap) xs i oki c) (h0:0 ≤ i) (h1:i < n) :
  (∀ j u,c[j]? = some u → W.cell? ⟨g,i.toNat * d.sz + j,none⟩ = some u)∧∀ j,W.frozen? ⟨g,i.toNat * d.sz + j,none⟩ = false:=by
 obtain ⟨rows,_,hraw,_,_,hcc,_⟩:=Kd.H_raw h h0 h1
 obtain ⟨_,_,_,_,hfr⟩:=Kd.R_elem hraw ([]:List Value) i h0 h1
 exact ⟨hcc,hfr⟩
end
end Go.Proofs.Ytnkgcjdlfenepaa.P
