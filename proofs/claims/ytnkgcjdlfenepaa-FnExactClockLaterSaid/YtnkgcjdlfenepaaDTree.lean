/- Terms with time whose rows lie apart at every depth. No condition. -/
import Derived.Test.YtnkgcjdlfenepaaDeep
namespace Go.Proofs.Ytnkgcjdlfenepaa.P
open Go.RowKit Go.Proofs.YtnkgcjdlfenepaaW.PrintWords Go.Proofs.YtnkgcjdlfenepaaW.PrintLast Go.Proofs.YtnkgcjdlfenepaaW.PrintMore
set_option linter.unusedVariables false
def F29q (d:Kd S29):Kd S29:=Kd.iso (Kd.pair (Kd.int .i64) (Kd.pair (Kd.int .i64) (sliceS 29 d))) (fun x:S29=>(x.f0,x.f1,x.f2))
theorem monoq29:Kd.Mono F29q:=Kd.mono_iso _ (Kd.mono_pair (Kd.mono_const _) (Kd.mono_pair (Kd.mono_const _) (mono_sliceS 29 Kd.mono_id)))
theorem subq29:Kd.Sub F29q [29]:=Kd.sub_iso _ (Kd.sub_pair (Kd.sub_const _ (by decide)) (Kd.sub_pair (Kd.sub_const _ (by decide)) (sub_sliceS 29 (by decide) Kd.sub_id)))
theorem szq29:∀ n,(Kd.upto F29q 3 [29] n).sz = 3:=Kd.upto_sz (fun _=>rfl)
def q29:Kd S29:=Kd.fix F29q 3 [29] szq29 (Kd.upto_E subq29)
theorem q29_openM {w:World} {base:Nat} {ok:Nat → Prop} {x:S29} {cs:List Value} (h:q29.M w base ok x cs):∃ v2,cs = [.int .i64 x.f0,.int .i64 x.f1,v2]∧Kd.S q29 29 w base ok v2 x.f2:=by
 obtain ⟨n,h⟩:=h
 cases n with
 | zero=>exact h.elim
 | succ n =>
  obtain ⟨_,_,rfl,rfl,⟨_,_,rfl,rfl,⟨v2,rfl,g2⟩⟩⟩:=h
  exact ⟨v2,rfl,fix_S g2⟩
theorem q29_mkM (w:World) (base:Nat) (ok:Nat → Prop) (x:S29) {v2:Value} (g2:Kd.S q29 29 w base ok v2 x.f2):q29.M w base ok x [.int .i64 x.f0,.int .i64 x.f1,v2]:=by
 obtain ⟨n2,h2⟩:=fix_S_back monoq29 g2
 exact ⟨n2 + 1,⟨[.int .i64 x.f0],[.int .i64 x.f1,v2],rfl,rfl,⟨[.int .i64 x.f1],[v2],rfl,rfl,⟨v2,rfl,h2⟩⟩⟩⟩
theorem q29_up:∀ n (w:World) (x:S29) (cs:List Value),(Kd.upto F29q 3 [29] n).K w x cs ↔ (Kd.upto F29 3 [29] n).K w x cs
 | 0,_,_,_=>Iff.rfl
 | n + 1,w,x,cs=>by
  constructor
  ·rintro ⟨_,_,rfl,rfl,⟨_,_,rfl,rfl,⟨A2,c2,rfl,l2,g2⟩⟩⟩
   exact ⟨_,_,rfl,rfl,⟨_,_,rfl,rfl,⟨A2,c2,rfl,l2,Kd.C_imp ((szq29 n).trans (sz29 n).symm) (fun w x cs h=>(q29_up n w x cs).1 h) g2⟩⟩⟩
  ·rintro ⟨_,_,rfl,rfl,⟨_,_,rfl,rfl,⟨A2,c2,rfl,l2,g2⟩⟩⟩
   exact ⟨_,_,rfl,rfl,⟨_,_,rfl,rfl,⟨A2,c2,rfl,l2,Kd.C_imp ((sz29 n).trans (szq29 n).symm) (fun w x cs h=>(q29_up n w x cs).2 h) g2⟩⟩⟩
theorem q29_C {w:World} {A:Option Addr} {n:Nat} {xs:List S29} (h:q29.C w A n xs):k29.C w A n xs :=
 Kd.C_imp (d:=q29) (d':=k29) rfl (fun w x cs ⟨n,h⟩=>⟨n,(q29_up n w x cs).1 h⟩) h
theorem S29_reads {w:World} {base:Nat} {ok:Nat → Prop} {A:Option Addr} {n c:Nat} {xs:List S29} (h:Kd.S q29 29 w base ok (.slice A n c) xs):n = xs.length∧n ≤ c∧k29.C w A xs.length xs :=
 ⟨(Kd.S_reads' h).1,(Kd.S_reads' h).2.1,q29_C (Kd.S_reads' h).2.2⟩
end Go.Proofs.Ytnkgcjdlfenepaa.P
