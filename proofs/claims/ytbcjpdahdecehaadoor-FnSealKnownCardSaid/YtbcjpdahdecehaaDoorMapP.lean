/- What a call's map of messages holds: derived messages, each under its text. Plain; no condition. -/
import Derived.Test.YtbcjpdahdecehaaDoorP0
import Derived.Test.YtbcjpdahdecehaaDoorP1
import Derived.Test.YtbcjpdahdecehaaDoorSealDer
import Derived.Test.YtbcjpdahdecehaaDoorHMakes
namespace Go.Proofs.YtbcjpdahdecehaaDoor.P
open Go.RowKit Go.Proofs.YtbcjpdahdecehaaDoorW.PrintWords Go.Proofs.YtbcjpdahdecehaaDoorW.PrintLast Go.Proofs.YtbcjpdahdecehaaDoorW.PrintMore
open Go.Maps (Keyed IsMap Tidy)
set_option linter.unusedVariables false
set_option linter.unusedSimpArgs false
def Sd (D:DataW Value) (s:ByteArray):Bool:=Go.Maps.has D (.string s.data.toList)
theorem says (D:DataW Value):Says D (Sd D):=fun _ _=>rfl
def keyL (x:S25):Lit:=.string x.tx.data.toList
theorem keyLit (x:S25):WideAt.IsKeyLit (keyL x):=trivial
theorem keyL_inj {x y:S25} (hx:OkT x) (hy:OkT y) (h:keyL x = keyL y):x = y:=tb_inj hx hy (by unfold keyL at h;injection h)
structure MapOk (w0:World) (K:List S25) (D:DataW Value):Prop where
 isMap:IsMap D
 ent:∀ kl,Go.Maps.has D kl = true → ∃ x A c,OkT x∧x.nodes ≤ 12∧Der K x∧kl = keyL x∧(∀ z,D.atKey kl z = .held (mv x.f0 x.f1 A x.f2.length c))∧x.f2.length ≤ c∧Kd.C k25 w0 A x.f2.length x.f2
theorem MapOk.nil (w0:World) (K:List S25):MapOk w0 K (.map []):=⟨Go.Maps.isMap_empty,fun kl h=>by cases h⟩
theorem MapOk.sound {w0:World} {K:List S25} {D:DataW Value} (h:MapOk w0 K D):∀ x,OkT x → Sd D x.tx = true → Der K x:=by
 intro x hx hs
 obtain ⟨y,_,_,hy,_,hd,hk,_⟩:=h.ent _ hs
 rw [keyL_inj hx hy hk]
 exact hd
theorem MapOk.put {w0:World} {K:List S25} {D:DataW Value} (h:MapOk w0 K D) {x:S25} (hx:OkT x) (hn:x.nodes ≤ 12) (hd:Der K x) {A:Option Addr} {c:Nat} (hc:x.f2.length ≤ c) (hC:Kd.C k25 w0 A x.f2.length x.f2) :
  MapOk w0 K (D.put (keyL x) (.held (mv x.f0 x.f1 A x.f2.length c))):=by
 refine ⟨h.isMap.put _ _,fun kl hkl=>?_⟩
 by_cases e:kl = keyL x
 ·subst e
  exact ⟨x,A,c,hx,hn,hd,rfl,fun z=>Go.Maps.atKey_put_same h.isMap (keyLit x) _ z,hc,hC⟩
 ·rw [Go.Maps.has_put_other e] at hkl
  obtain ⟨y,A',c',h1,h2,h3,h4,h5,h6⟩:=h.ent kl hkl
  exact ⟨y,A',c',h1,h2,h3,h4,fun z=>by rw [Go.Maps.atKey_put_other e];exact h5 z,h6⟩
theorem Sd_put_same {D:DataW Value} (hD:IsMap D) (x:S25) (d:DataW Value):Sd (D.put (keyL x) d) x.tx = true:=Go.Maps.has_put_same hD (keyLit x) d
theorem has_put_mono {D:DataW Value} (hD:IsMap D) (x:S25) (d:DataW Value) {kl:Lit} (h:Go.Maps.has D kl = true):Go.Maps.has (D.put (keyL x) d) kl = true:=by
 by_cases e:kl = keyL x
 ·subst e
  exact Go.Maps.has_put_same hD (keyLit x) d
 ·rw [Go.Maps.has_put_other e]
  exact h
theorem Sd_put_mono {D:DataW Value} (hD:IsMap D) (x:S25) (d:DataW Value) {s:ByteArray} (h:Sd D s = true):Sd (D.put (keyL x) d) s = true:=has_put_mono hD x d h
theorem nodup_len {α:Type} [DecidableEq α]:∀ {l m:List α},l.Pairwise (fun a b=>a ≠ b) → (∀ a,a ∈ l → a ∈ m) → l.length ≤ m.length
 | [],_,_,_=>Nat.zero_le _
 | a :: l,m,hp,hm=>by
  rw [List.pairwise_cons] at hp
  have ha:=hm a (List.mem_cons_self ..)
  have h:=nodup_len (l:=l) (m:=m.erase a) hp.2 fun b hb=>(List.mem_erase_of_ne (Ne.symm (hp.1 b hb))).2 (hm b (List.mem_cons_of_mem _ hb))
  rw [List.length_erase_of_mem ha] at h
  have:=List.length_pos_of_mem ha
  rw [List.length_cons]
  omega
theorem same_self {k:Lit} (h:WideAt.IsKeyLit k):k.sameKey k = true:=by
 cases k <;> first | (simp [Lit.sameKey];done) | exact h.elim
theorem MapOk.size {w0:World} {K:List S25} {D:DataW Value} (h:MapOk w0 K D) {W:World} {b n:Nat} (ho:W.ownsMap Tryd.prog 9 RV b n D):Go.Maps.size D ≤ nodesL K:=by
 obtain ⟨es,rfl,hp,hkey⟩:=ho.entries lawK
 have e1:es.length = (es.map Prod.fst).length:=(List.length_map _).symm
 have e2:(subsL K).length = ((subsL K).map keyL).length:=(List.length_map _).symm
 rw [Go.Maps.size_eq,← subsL_len,e1,e2]
 haveI:DecidableEq Lit:=fun a b=>Classical.propDecidable _
 refine nodup_len (List.pairwise_map.2 hp) fun kl hkl=>?_
 obtain ⟨p,hp',rfl⟩:=List.mem_map.1 hkl
 have hh:Go.Maps.has (.map es) p.1 = true:=by
  rw [Go.Maps.has_eq,List.any_eq_true]
  exact ⟨p,hp',same_self (hkey p hp')⟩
 obtain ⟨x,_,_,_,_,hd,hk,_⟩:=h.ent p.1 hh
 rw [hk]
 exact List.mem_map.2 ⟨x,der_subs hd,rfl⟩
structure StA (w0 W:World) (b:Nat) (D:DataW Value):Prop where
 hB:Below w0.heap.size w0 W
 hb:w0.heap.size ≤ b
 own:W.ownsMap Tryd.prog 9 RV b (Go.Maps.size D) D
theorem StA.alloc {w0 W:World} {b:Nat} {D:DataW Value} (h:StA w0 W b D) (o:Obj):StA w0 (W.alloc o) b D:=⟨h.hB.alloc h.hB.size o,h.hb,h.own.alloc o⟩
theorem StA.drew {w0 W:World} {b:Nat} {D:DataW Value} (h:StA w0 W b D):StA w0 W.drew b D:=⟨h.hB.drew,h.hb,h.own.drew⟩
theorem StA.below {w0 W W':World} {b:Nat} {D:DataW Value} (h:StA w0 W b D) (hb:Below W.heap.size W W'):StA w0 W' b D:=⟨below_step h.hB hb,h.hb,own_below h.own hb⟩
theorem StA.lt {w0 W:World} {b:Nat} {D:DataW Value} (h:StA w0 W b D):b < W.heap.size:=h.own.lt
theorem StA.tidy {w0 W:World} {b:Nat} {D:DataW Value} (h:StA w0 W b D):Tidy D:=h.own.tidy lawK
theorem own_tight {W:World} {b n:Nat} {D:DataW Value} (h:W.ownsMap Tryd.prog 9 RV b n D):W.ownsMap Tryd.prog 9 RV b (Go.Maps.size D) D:=by
 obtain ⟨es,clock,h1,F,hs,rfl⟩:=h
 refine ⟨es,clock,h1,F,?_,rfl⟩
 rw [Go.Maps.size_eq,length_sorted]
 simp
theorem StA.put {w0 W W':World} {b n:Nat} {D D':DataW Value} (h:StA w0 W b D) (ho:W'.ownsMap Tryd.prog 9 RV b n D') (hg:W.grownBy W' (some b)):StA w0 W' b D' :=
 ⟨h.hB.grown hg h.hB.size (fun k hk=>by injection hk with hk;rw [← hk];exact h.hb),h.hb,own_tight ho⟩
theorem sealOk_at {x:S25} (h:W25 x) (A:Option Addr) (c:Nat) (w:World) (hC:Kd.C k25 w A x.f2.length x.f2) (hc:x.f2.length ≤ c) :
  Calls Tryd.prog 14 #[.agg #[.int .i64 x.f0,.int .i64 x.f1,.slice A x.f2.length c]] w fun e w'=>e = .returned (.bool (sealOk x))∧Below w.heap.size w w':=by
 obtain ⟨k,hk⟩:=(okImpl_ev h).rounds
 exact impl_SealOk.calls k _ _ _ _ _ _ w hC hc hk
section
variable {ops:Array Oper} {o:Oper} {a:Act} {Q:Exit → Act → World → Prop} {Kc:Act → World → Prop}
theorem update_step {W w0:World} (hw:Region.wanted o (yielded ops a.tmps) = true) (m x v:Operand) (hop:o.op = Op.mapUpdate 65 m x v) (hN:o.dst = none) {b:Nat} {D:DataW Value} (hm:a.eval m = .map (some b)) (h:StA w0 W b D) (hn:Go.Maps.size D < maxLen)
  (s:ByteArray) (x0 x1:Int) (A:Option Addr) (n c:Nat) (hx:a.eval x = .string s) (hv:a.eval v = mv x0 x1 A n c) (hs:s.size ≤ maxLen)
  (hK:∀ w',StA w0 w' b (D.put (.string s.data.toList) (.held (mv x0 x1 A n c))) → Kc a w') :
  if Region.wanted o (yielded ops a.tmps) = true then Oper.wp Tryd.prog o a W Kc Q else Kc (a.put none undef) W:=by
 rw [if_pos hw]
 obtain ⟨w',hrun,r1,r2⟩:=h.own.update lawK Tryd.underlying65 hn (key_of hs) (RV_mk x0 x1 A n c)
 unfold Oper.wp
 simp [execOp,hop,hm,hx,hv,hrun,Result.andThen,hN]
 show Kc (a.put o.dst undef) w'
 rw [hN]
 exact hK _ (h.put r1 r2)
end
end Go.Proofs.YtbcjpdahdecehaaDoor.P
