/- Whatever term with time is given, what passes a unit of time makes memory of its own. No condition. -/
import Derived.Test.YtnkgcjdlfenepaaDPass
import Derived.Test.YtnkgcjdlfenepaaClkOps
namespace Go.Proofs.Ytnkgcjdlfenepaa.P
open Go.RowKit Go.Proofs.YtnkgcjdlfenepaaW.PrintWords Go.Proofs.YtnkgcjdlfenepaaW.PrintLast Go.Proofs.YtnkgcjdlfenepaaW.PrintMore
set_option linter.unusedVariables false
theorem pass_all {x:S29} (h:OkT x):x.nodes ≤ 16 → ∀ (A:Option Addr) (c:Nat) (w:World),Kd.C k29 w A x.f2.length x.f2 → x.f2.length ≤ c → PassTo w x.f0 x.f1 A c x.f2 x.ps:=by
 induction h with
 | nil =>
  intro hn A c w hC hc
  obtain ⟨K,hK⟩:=copy_ev (OkT.nil.w)
  rw [ps_nil]
  exact pass_copy K 0 0 A c [] w hC hc rfl rfl rfl rfl (hK K (Nat.le_refl _))
 | act b p h0 h1 hp ih =>
  intro hn A c w hC hc
  obtain ⟨K,hK⟩:=copy_ev (OkT.act b p h0 h1 hp).w
  rw [ps_act]
  exact pass_act K 1 b A c [p] w hC hc rfl (hK K (Nat.le_refl _))
 | wait b p h0 h1 hp ih =>
  intro hn A c w hC hc
  by_cases hb:b = 1
  ·subst hb
   obtain ⟨K,hK⟩:=copy_ev hp.w
   rw [ps_wait1]
   exact pass_wait1 K 2 1 A c [p] w hC hc rfl rfl rfl (by simp) (hK K (Nat.le_refl _))
  ·obtain ⟨K,hK⟩:=copy_ev (OkT.wait b p h0 h1 hp).w
   have e:wrap64 (b - 1) = b - 1:=wrap_id (by omega) (by omega)
   rw [ps_wait hb,← e]
   exact pass_wait K 2 b A c [p] w hC hc rfl rfl (by simpa using hb) (hK K (Nat.le_refl _))
 | sum p q hp hq i1 i2 =>
  intro hn A c w hC hc
  rw [nodes2] at hn
  have j1:=i1 (by omega)
  have j2:=i2 (by omega)
  rw [ps_sum]
  cases r0:p.ps.2 with
  | false =>
   rw [if_neg (by simp)]
   exact pass_sum_no0 0 3 0 A c [p,q] p.ps q.ps w hC hc rfl rfl (by simp) (fun W A c h1 h2=>j1 A c W h1 h2) (fun W A c h1 h2=>j2 A c W h1 h2) rfl r0
  | true =>
   cases r1:q.ps.2 with
   | false =>
    rw [if_neg (by simp)]
    exact pass_sum_no1 0 3 0 A c [p,q] p.ps q.ps w hC hc rfl rfl (by simp) (fun W A c h1 h2=>j1 A c W h1 h2) (fun W A c h1 h2=>j2 A c W h1 h2) rfl r0 r1
   | true =>
    rw [if_pos ⟨rfl,rfl⟩]
    exact pass_sum_yes 0 3 0 A c [p,q] p.ps q.ps w hC hc rfl rfl (by simp) (fun W A c h1 h2=>j1 A c W h1 h2) (fun W A c h1 h2=>j2 A c W h1 h2) rfl rfl r0 r1
 | par p q hp hq i1 i2 =>
  intro hn A c w hC hc
  rw [nodes2] at hn
  have j1:=i1 (by omega)
  have j2:=i2 (by omega)
  rw [ps_par]
  cases r0:p.ps.2 with
  | false =>
   rw [if_neg (by simp)]
   exact pass_par_no0 0 4 0 A c [p,q] p.ps q.ps w hC hc rfl rfl (by simp) (fun W A c h1 h2=>j1 A c W h1 h2) (fun W A c h1 h2=>j2 A c W h1 h2) rfl rfl r0
  | true =>
   cases r1:q.ps.2 with
   | false =>
    rw [if_neg (by simp)]
    exact pass_par_no1 0 4 0 A c [p,q] p.ps q.ps w hC hc rfl rfl (by simp) (fun W A c h1 h2=>j1 A c W h1 h2) (fun W A c h1 h2=>j2 A c W h1 h2) rfl rfl r0 r1
   | true =>
    obtain ⟨K0,h0⟩:=ticks_ev hp (by omega)
    obtain ⟨K1,h1⟩:=ticks_ev hq (by omega)
    have hr:=pass_par (K0 + K1) 4 0 A c [p,q] p.ps q.ps w hC hc rfl rfl (by simp) (fun W A c h1 h2=>j1 A c W h1 h2) (fun W A c h1 h2=>j2 A c W h1 h2) rfl rfl r0 r1 p.tk q.tk (h0 _ (by omega)) (h1 _ (by omega)) (fun z=>partner_eq z q.tk (tk_act_in hq))
    have e:(if true = true∧true = true∧¬ meets p.tk q.tk = true then ((⟨4,0,[p.ps.1,q.ps.1]⟩:S29),true) else (⟨0,0,[]⟩,false)) = parRes 4 p.tk q.tk p.ps q.ps:=by
     unfold parRes
     by_cases hm:meets p.tk q.tk = true
     ·rw [if_neg (by simp [hm]),if_pos hm]
     ·rw [if_pos ⟨rfl,rfl,hm⟩,if_neg hm]
    rw [e]
    exact hr
end Go.Proofs.Ytnkgcjdlfenepaa.P
