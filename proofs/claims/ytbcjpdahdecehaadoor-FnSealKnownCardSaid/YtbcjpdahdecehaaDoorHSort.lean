/- slices.Sort over strings: the library's contract, laid at this program, told over a row of the call's own; with it impl.SealKnown. No condition. -/
import Derived.Shelf.SortG.AssemblysIn
import Derived.Shelf.SortG.SortNone
import Derived.Sort.EveryDepth
import Derived.Laws.Cover1
import Derived.Sort.OwnSorted
import Derived.Ground.SlgnProg
import Derived.Test.YtbcjpdahdecehaaDoorHKnown
namespace Go.Proofs
open Go.Shelf
shelf_lay_g SlLaysN.n54 Slgn 54 at Tryd 57 as Tryd.sortS
end Go.Proofs
namespace Go.Proofs.YtbcjpdahdecehaaDoor.P
open Go.RowKit Go.Sort Go.Proofs.YtbcjpdahdecehaaDoorW.PrintWords Go.Proofs.YtbcjpdahdecehaaDoorW.PrintLast Go.Proofs.YtbcjpdahdecehaaDoorW.PrintMore
set_option linter.unusedVariables false
set_option linter.unusedSimpArgs false
def bs (s:ByteArray):List UInt8:=s.data.toList
theorem encStr_bs (s:ByteArray):encStr (bs s) = .string s:=by
 unfold bs
 show Value.string ⟨s.data.toList.toArray⟩ = _
 rw [Array.toArray_toList]
theorem reps_string {W:World} {base:Nat} {ok:Nat → Prop} {ss:List ByteArray} {inner:List Value} (h:Reps (Kd.string.M W base ok) Kd.string.sz ss inner):inner = (ss.map bs).map encStr:=by
 have hl:inner.length = ss.length:=by rw [h.1];exact Nat.mul_one _
 refine List.ext_getElem (by simp [hl]) fun j h1 h2=>?_
 have hj:j < ss.length:=by omega
 have:=h.2 j ss[j] (List.getElem?_eq_getElem hj)
 have e:(inner.drop (j * Kd.string.sz)).take Kd.string.sz = [Value.string ss[j]]:=this
 rw [show Kd.string.sz = 1 from rfl,Nat.mul_one,List.drop_eq_getElem_cons h1] at e
 simp only [List.take_succ_cons,List.take_zero] at e
 injection e with e
 rw [e]
 simp [encStr_bs]
theorem reps_string_of (W:World) (base:Nat) (ok:Nat → Prop) (ss:List ByteArray):Reps (Kd.string.M W base ok) Kd.string.sz ss ((ss.map bs).map encStr):=by
 have e:(ss.map bs).map encStr = encs Value.string ss:=by
  unfold encs
  rw [List.map_map]
  exact List.map_congr_left fun s _=>encStr_bs s
 rw [e]
 exact Kd.reps_scalar ss
theorem sortB_map (ss:List ByteArray):(sortB ss).map bs = (ss.map bs).mergeSort fun x y=>decide (x ≤ y):=by
 unfold sortB
 exact List.map_mergeSort (fun a _ b _=>rfl)
theorem sort_con:SortCon:=by
 intro base W A c ss hbase hR hlen
 obtain ⟨h0,inner,hown,hrep⟩:=hR
 obtain rfl:=reps_string hrep
 rcases hown.2 with ⟨hnil,hn⟩ | ⟨g,cap,cur,hv,hb,hg,h1,h2,h3,h4⟩
 ·obtain rfl:ss = []:=List.eq_nil_of_length_eq_zero hn
  have hs:sortB [] = []:=List.mergeSort_nil
  refine Calls.mono (calls_of_every_depth fun D=>AnySG.slices_Sort_string_none_in Tryd.sortS D A c W) ?_
  rintro e W' ⟨rfl,rfl⟩
  refine ⟨rfl,?_,Below.refl _ _⟩
  rw [hs]
  exact ⟨h0,_,hown,hrep⟩
 ·injection hv with hA hB hC
  subst hA
  subst hC
  have h3':cur.size = c * 1:=h3
  have h4':cur.toList.take (ss.map bs).length = (ss.map bs).map encStr:=by
   rw [List.length_map]
   have:ss.length * Kd.string.sz = ss.length:=Nat.mul_one _
   rw [this] at h4
   exact h4
  have hlt:g < W.heap.size:=(Array.getElem?_eq_some_iff.1 hg).1
  have hc:=calls_of_every_depth fun D=>AnySG.slices_Sort_string_in Tryd.sortS D g 0 c (ss.map bs) W (holds_of_block hg h4') hlt (by rw [List.length_map];omega)
  rw [List.length_map] at hc
  refine Calls.mono hc ?_
  rintro e W' ⟨rfl,n,os,rfl⟩
  rw [← sortB_map]
  have hls:((sortB ss).map bs).length = (ss.map bs).length:=by
   rw [List.length_map,List.length_map]
   exact (List.mergeSort_perm ..).length_eq
  have hsl:(sortB ss).length = ss.length:=(List.mergeSort_perm ..).length_eq
  have ho:=ownsRow_sorted (n:=n) (os:=os) hls hb hg (by rw [List.length_map];exact h1) h2 h3'
  have hgr:W.grownBy (grow (putRow encStr (Sort.ahead W n) g 0 ((sortB ss).map bs).toArray) os) (some g):=grownBy_sorted _
  refine ⟨rfl,⟨fun k hk=>trivial,_,?_,reps_string_of _ _ _ _⟩,(Below.refl base W).grown hgr hbase (fun k hk=>by injection hk with hk;rw [← hk];exact hb)⟩
  rw [List.length_map] at ho
  rw [hsl]
  exact ho
theorem impl_SealKnown.calls (A0:Option Addr) (c0:Nat) (l0:List S25) (r1:List ByteArray) (r2:Bool) (w:World) (hr0:Kd.C k25 w A0 l0.length l0) (hc0:l0.length ≤ c0) (h:impl_SealKnown.f l0 = some (r1,r2)) :
  Calls Tryd.prog 32 #[.slice A0 l0.length c0] w fun e w'=>∃ v0_:Value,e = .returned (.tuple #[v0_,.bool r2])∧Kd.R Kd.string 9 w' w.heap.size (fun _=>True) v0_ r1∧Below w.heap.size w w' :=
 impl_SealKnown.calls_of sort_con A0 c0 l0 r1 r2 w hr0 hc0 h
end Go.Proofs.YtbcjpdahdecehaaDoor.P
