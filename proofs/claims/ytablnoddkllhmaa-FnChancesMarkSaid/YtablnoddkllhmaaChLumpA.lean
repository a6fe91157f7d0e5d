/- Classes of a chain: what is alike goes on alike. Plain; no condition. -/
import Derived.Test.YtablnoddkllhmaaChSumA
import Derived.Test.YtablnoddkllhmaaCls2
namespace Go.Proofs.Ytablnoddkllhmaa.P
open Go.RowKit Go.Proofs.YtablnoddkllhmaaW.PrintWords Go.Proofs.YtablnoddkllhmaaW.PrintLast
set_option linter.unusedVariables false
set_option linter.unusedSimpArgs false
theorem sg_none {f:Nat → Int} {n:Nat} (h:∀ i,i < n → f i = 0):sg f n = 0:=(sg_congr h).trans (sg_zero n)
theorem intoA_sg {cl row:List Int} {v:Int} (d:Nat):∀ (t:Nat) (a:Int),(∀ i:Nat,t ≤ i → i < t + d → 0 ≤ rd row i∧rd row i ≤ 6) → 0 ≤ a → a ≤ 1000000000000 - 6 * d →
  intoA cl row v d t a = a + sg (fun i=>if rd cl ((t + i:Nat):Int) = v then rd row ((t + i:Nat):Int) else 0) d:=by
 induction d with
 | zero=>intro t a _ _ _;simp [intoA,sg]
 | succ d ih =>
  intro t a h h0 h1
  have hb:=h t (Nat.le_refl _) (by omega)
  have hs:∀ d:Nat,sg (fun i=>if rd cl ((t + i:Nat):Int) = v then rd row ((t + i:Nat):Int) else 0) (d + 1) = (if rd cl t = v then rd row t else 0) + sg (fun i=>if rd cl ((t + 1 + i:Nat):Int) = v then rd row ((t + 1 + i:Nat):Int) else 0) d:=by
   intro d
   induction d with
   | zero=>simp [sg]
   | succ d ihd =>
    rw [sg,ihd,sg]
    have:t + (d + 1) = t + 1 + d:=by omega
    rw [this];omega
  rw [intoA,hs]
  by_cases e:rd cl t = v
  ·rw [if_pos e,if_pos e,wrap_id (by omega) (by omega),ih (t + 1) _ (fun i hi hi2=>h i (by omega) (by omega)) (by omega) (by omega)]
   omega
  ·rw [if_neg e,if_neg e,ih (t + 1) _ (fun i hi hi2=>h i (by omega) (by omega)) (by omega) (by omega)]
   omega
theorem intoP_sg {m:List Int} {ws:List (List Int)} {n:Nat} (h:Chain m ws n) {cl:List Int} (hl:cl.length = n) {s:Nat} (hs:s < n) (v:Int):intoP ws cl s v = sg (fun t=>if rd cl t = v then wt ws s t else 0) n:=by
 have h3:=h.rows.le
 rw [intoP,hl,intoA_sg n 0 0 (fun i _ hi2=>h.w0 s i hs (by omega)) (by omega) (by omega),Int.zero_add]
 exact sg_congr (fun i hi=>by rw [Nat.zero_add])
theorem ccF_fix {ws:List (List Int)} {n:Nat} (d:Nat):∀ cl,Canon cl n → n + 1 ≤ d + repN cl n → nextP ws (ccF ws d cl) = ccF ws d cl:=by
 induction d with
 | zero=>intro cl h hd;have:=repN_le cl n;omega
 | succ d ih =>
  intro cl h hd
  rw [ccF]
  by_cases e:nextP ws cl = cl
  ·rw [if_pos e];exact e
  ·rw [if_neg e]
   have:=repN_lt ws h e
   exact ih _ (next_canon ws h) (by omega)
theorem classesP_fix (m:List Int) (ws:List (List Int)):nextP ws (classesP m ws) = classesP m ws:=ccF_fix _ _ (start_canon m) (by omega)
def MarkOk (m cl:List Int) (n:Nat):Prop:=∀ s t:Nat,s < n → t < n → rd cl s = rd cl t → rd m s = rd m t
theorem start_mark (m:List Int):MarkOk m (ccStart m) m.length:=by
 intro s t hs ht h
 rw [ccStart,partP_rd _ _ _ (by simpa using hs),partP_rd _ _ _ (by simpa using ht)] at h
 have h1:=(least_spec (List.replicate m.length 0) (marks1 m) s).2
 have h2:=(least_spec (List.replicate m.length 0) (marks1 m) t).2
 have h3:least (List.replicate m.length 0) (marks1 m) s = least (List.replicate m.length 0) (marks1 m) t:=by omega
 rw [h3] at h1
 have:=h1.symm.trans h2
 simpa [marks1] using this
theorem next_mark {m cl:List Int} {ws:List (List Int)} {n:Nat} (hc:Canon cl n) (h:MarkOk m cl n):MarkOk m (nextP ws cl) n:=by
 intro s t hs ht he
 have hl:=hc.len
 rw [nextP,partP_rd _ _ _ (by omega),partP_rd _ _ _ (by omega)] at he
 have h1:=(least_spec cl (sumsP ws cl) s).1
 have h2:=(least_spec cl (sumsP ws cl) t).1
 rw [he] at h1
 exact h s t hs ht (h1.symm.trans h2)
theorem ccF_mark {m:List Int} {ws:List (List Int)} {n:Nat}:∀ d cl,Canon cl n → MarkOk m cl n → MarkOk m (ccF ws d cl) n
 | 0,cl,_,h=>h
 | d + 1,cl,hc,h=>by
  rw [ccF]
  by_cases e:nextP ws cl = cl
  ·rw [if_pos e];exact h
  ·rw [if_neg e];exact ccF_mark d _ (next_canon ws hc) (next_mark hc h)
theorem classesP_mark (m:List Int) (ws:List (List Int)):MarkOk m (classesP m ws) m.length:=ccF_mark _ _ (start_canon m) (start_mark m)
structure Lump (m:List Int) (ws:List (List Int)) (cl:List Int) (n:Nat):Prop extends Canon cl n where
 mark:MarkOk m cl n
 sums:∀ s t:Nat,s < n → t < n → rd cl s = rd cl t → sumsP ws cl s = sumsP ws cl t
theorem classesP_lump (m:List Int) (ws:List (List Int)):Lump m ws (classesP m ws) m.length:=by
 have hc:=classesP_canon m ws
 have hl:=hc.len
 refine ⟨hc,classesP_mark m ws,?_⟩
 have key:∀ s:Nat,s < m.length → sumsP ws (classesP m ws) (rd (classesP m ws) s).toNat = sumsP ws (classesP m ws) s:=by
  intro s hs
  have h1:rd (nextP ws (classesP m ws)) s = (least (classesP m ws) (sumsP ws (classesP m ws)) s:Int):=partP_rd _ _ _ (by omega)
  rw [classesP_fix] at h1
  have h2:=(least_spec (classesP m ws) (sumsP ws (classesP m ws)) s).2
  rw [h1,Int.toNat_natCast]
  exact h2
 intro s t hs ht he
 rw [← key s hs,← key t ht,he]
section
variable {m:List Int} {ws:List (List Int)} {cl:List Int} {n:Nat}
theorem Lump.into (h:Lump m ws cl n) (hr:Rows ws n) {s t:Nat} (hs:s < n) (ht:t < n) (he:rd cl s = rd cl t) {v:Int} (hv:0 ≤ v):intoP ws cl s v = intoP ws cl t v:=by
 rw [← sumsP_rd hr h.toInR hs v hv,← sumsP_rd hr h.toInR ht v hv,h.sums s t hs ht he]
theorem Lump.rep (h:Lump m ws cl n) {s:Nat} (hs:s < n):∃ r:Nat,r < n∧rd cl s = r∧rd cl r = r:=by
 have h1:=h.rng s hs
 have h2:=h.low s hs
 have h3:=h.idem s hs
 exact ⟨(rd cl s).toNat,by omega,by omega,by rw [show (((rd cl s).toNat:Nat):Int) = rd cl s by omega];exact h3⟩
end
end Go.Proofs.Ytablnoddkllhmaa.P
