/- What the Go functions that the laws reach compute, and that their calls come to just that: told by a program of this session (aprint.py). No condition. -/
import Derived.Test.YtbcjpdahdecehaaDoorP0
import Derived.Test.YtbcjpdahdecehaaDoorP1
import Derived.Test.YtbcjpdahdecehaaDoorHItoa
namespace Go.Proofs.YtbcjpdahdecehaaDoor.P
open Go.RowKit Go.Proofs.YtbcjpdahdecehaaDoorW.PrintWords Go.Proofs.YtbcjpdahdecehaaDoorW.PrintLast Go.Proofs.YtbcjpdahdecehaaDoorW.PrintMore
attribute [local go_sem] max2_int min2_int max_two min_two max_three min_three max_four min_four
set_option linter.unusedVariables false
set_option linter.unusedSimpArgs false
def impl_sealText.f:Nat → Int → Int → List (S25) → Option (ByteArray)
 | 0,_,_,_=>none
 | k + 1,a0_0,a0_1,l0_2=>if a0_0 = 1 then (if 0 < (l0_2.length:Int) then ((impl_sealText.f k ((rd_T25 l0_2 0).f0) ((rd_T25 l0_2 0).f1) ((rd_T25 l0_2 0).f2)).bind fun t167=>(if 1 + t167.size ≤ 9223372036854775807 then (if ((⟨#[40]⟩:ByteArray) ++ t167).size + 1 ≤ 9223372036854775807 then (if 1 < (l0_2.length:Int) then ((impl_sealText.f k ((rd_T25 l0_2 1).f0) ((rd_T25 l0_2 1).f1) ((rd_T25 l0_2 1).f2)).bind fun t169=>(if (((⟨#[40]⟩:ByteArray) ++ t167) ++ (⟨#[32]⟩:ByteArray)).size + t169.size ≤ 9223372036854775807 then (if ((((⟨#[40]⟩:ByteArray) ++ t167) ++ (⟨#[32]⟩:ByteArray)) ++ t169).size + 1 ≤ 9223372036854775807 then (some (((((⟨#[40]⟩:ByteArray) ++ t167) ++ (⟨#[32]⟩:ByteArray)) ++ t169) ++ (⟨#[41]⟩:ByteArray))) else (none)) else (none))) else (none)) else (none)) else (none))) else (none)) else (if a0_0 = 2 then (if 1 < (l0_2.length:Int) then ((impl_sealText.f k ((rd_T25 l0_2 1).f0) ((rd_T25 l0_2 1).f1) ((rd_T25 l0_2 1).f2)).bind fun t171=>(if 1 + t171.size ≤ 9223372036854775807 then (if ((⟨#[123]⟩:ByteArray) ++ t171).size + 1 ≤ 9223372036854775807 then (if 0 < (l0_2.length:Int) then ((impl_sealText.f k ((rd_T25 l0_2 0).f0) ((rd_T25 l0_2 0).f1) ((rd_T25 l0_2 0).f2)).bind fun t173=>(if (((⟨#[123]⟩:ByteArray) ++ t171) ++ (⟨#[125]⟩:ByteArray)).size + t173.size ≤ 9223372036854775807 then (some ((((⟨#[123]⟩:ByteArray) ++ t171) ++ (⟨#[125]⟩:ByteArray)) ++ t173)) else (none))) else (none)) else (none)) else (none))) else (none)) else ((strconv_Itoa_59.f a0_1).bind fun t174=>(if 1 + t174.size ≤ 9223372036854775807 then (some ((⟨#[109]⟩:ByteArray) ++ t174)) else (none))))
theorem impl_sealText.mono_l:∀ k,(∀ y0 y1 y2,LeO (impl_sealText.f k y0 y1 y2) (impl_sealText.f (k + 1) y0 y1 y2))
 | 0=>fun _ _ _ r h=>by simp [impl_sealText.f] at h
 | k + 1=>by
  have ih0:=impl_sealText.mono_l k
  ·intro y0 y1 y2
   unfold impl_sealText.f
   repeat' first
   | (with_reducible exact ih0 _ _ _)
   | (with_reducible exact LeO.refl _)
   | (with_reducible exact LeO.none _)
   | (with_reducible refine LeO.ite ?_ ?_)
   | (with_reducible refine LeO.bind ?_ (fun _=>?_))
   | exact ih0 _ _ _
   | exact LeO.none _
   | refine LeO.ite ?_ ?_
   | refine LeO.bind ?_ (fun _=>?_)
theorem impl_sealText.mono:∀ a0 a1 a2 k,LeO (impl_sealText.f k a0 a1 a2) (impl_sealText.f (k + 1) a0 a1 a2):=by
 intro a0 a1 a2 k
 have ih0:=impl_sealText.mono_l k
 exact ih0 a0 a1 a2
def impl_sealText.T3:Bool × List (List Nat × List Nat):=(true,[([],[]),([0],[0]),([1],[1]),([2],[2]),([3],[3]),([4],[4]),([5],[5]),([],[]),([7],[7]),([8],[8]),([9],[9]),([10,4],[10]),([6,11],[6,11]),([12],[12]),([13,11,0,1,2,3,4,5,6,7,8,9,10,11,12,13],[13])])
def impl_sealText.B3:List Nat:=[0,1,3,7,15,31,63,0,128,384,896,1951,4095,8191,16383]
theorem impl_sealText.tab3:rtab .any (opsOf Tryd.f46 3) = impl_sealText.T3:=by kernel_rfl
theorem impl_sealText.bits3:waitsOk impl_sealText.T3.2 impl_sealText.B3 = true:=by kernel_rfl
def impl_sealText.T5:Bool × List (List Nat × List Nat):=(true,[([],[]),([0],[0]),([1],[1]),([2],[2]),([3],[3]),([4],[4]),([5],[5]),([],[]),([7],[7]),([8],[8]),([9],[9]),([10,4],[10]),([6,11],[6,11]),([12,11,0,1,2,3,4,5,6,7,8,9,10,11,12],[12])])
def impl_sealText.B5:List Nat:=[0,1,3,7,15,31,63,0,128,384,896,1951,4095,8191]
theorem impl_sealText.tab5:rtab .any (opsOf Tryd.f46 5) = impl_sealText.T5:=by kernel_rfl
theorem impl_sealText.bits5:waitsOk impl_sealText.T5.2 impl_sealText.B5 = true:=by kernel_rfl
set_option maxHeartbeats 8000000 in
set_option maxRecDepth 100000 in
theorem impl_sealText.calls (k:Nat):∀ (a0_0:Int) (a0_1:Int) (A0_2:Option Addr) (c0_2:Nat) (l0_2:List (S25)) (r:ByteArray) (w:World) (hr0_2:Kd.C k25 w A0_2 l0_2.length l0_2) (hc0_2:l0_2.length ≤ c0_2) (h:impl_sealText.f k a0_0 a0_1 l0_2 = some r),
  Calls Tryd.prog 46 #[.agg #[.int .i64 a0_0,.int .i64 a0_1,.slice A0_2 l0_2.length c0_2]] w fun e w'=>e = .returned (.string r)∧Below w.heap.size w w':=by
 induction k using Nat.strongRecOn with
 | _ k ih =>
 intro a0_0 a0_1 A0_2 c0_2 l0_2 r w hr0_2 hc0_2 h
 cases k with
 | zero=>exact absurd h (by simp [impl_sealText.f])
 | succ k =>
 simp only [impl_sealText.f] at h
 have hu25:=Tryd.underlying25
 have HR0_2:=Aside0.mk hr0_2
 have HC0_2:=Aside0.mk hc0_2
 clear hr0_2 hc0_2
 have HB:=Aside0.mk (Below.refl w.heap.size w)
 have H:(if a0_0 = 1 then (if 0 < (l0_2.length:Int) then ((impl_sealText.f k ((rd_T25 l0_2 0).f0) ((rd_T25 l0_2 0).f1) ((rd_T25 l0_2 0).f2)).bind fun t167=>(if 1 + t167.size ≤ 9223372036854775807 then (if ((⟨#[40]⟩:ByteArray) ++ t167).size + 1 ≤ 9223372036854775807 then (if 1 < (l0_2.length:Int) then ((impl_sealText.f k ((rd_T25 l0_2 1).f0) ((rd_T25 l0_2 1).f1) ((rd_T25 l0_2 1).f2)).bind fun t169=>(if (((⟨#[40]⟩:ByteArray) ++ t167) ++ (⟨#[32]⟩:ByteArray)).size + t169.size ≤ 9223372036854775807 then (if ((((⟨#[40]⟩:ByteArray) ++ t167) ++ (⟨#[32]⟩:ByteArray)) ++ t169).size + 1 ≤ 9223372036854775807 then (some (((((⟨#[40]⟩:ByteArray) ++ t167) ++ (⟨#[32]⟩:ByteArray)) ++ t169) ++ (⟨#[41]⟩:ByteArray))) else (none)) else (none))) else (none)) else (none)) else (none))) else (none)) else (if a0_0 = 2 then (if 1 < (l0_2.length:Int) then ((impl_sealText.f k ((rd_T25 l0_2 1).f0) ((rd_T25 l0_2 1).f1) ((rd_T25 l0_2 1).f2)).bind fun t171=>(if 1 + t171.size ≤ 9223372036854775807 then (if ((⟨#[123]⟩:ByteArray) ++ t171).size + 1 ≤ 9223372036854775807 then (if 0 < (l0_2.length:Int) then ((impl_sealText.f k ((rd_T25 l0_2 0).f0) ((rd_T25 l0_2 0).f1) ((rd_T25 l0_2 0).f2)).bind fun t173=>(if (((⟨#[123]⟩:ByteArray) ++ t171) ++ (⟨#[125]⟩:ByteArray)).size + t173.size ≤ 9223372036854775807 then (some ((((⟨#[123]⟩:ByteArray) ++ t171) ++ (⟨#[125]⟩:ByteArray)) ++ t173)) else (none))) else (none)) else (none)) else (none))) else (none)) else ((strconv_Itoa_59.f a0_1).bind fun t174=>(if 1 + t174.size ≤ 9223372036854775807 then (some ((⟨#[109]⟩:ByteArray) ++ t174)) else (none))))) = some r:=h
 clear h
 by_cases c2:a0_0 = 1
 ·rw [if_pos c2] at H
  have c2b0:(a0_0 == 1) = true:=beq_iff_eq.mpr c2
  have c2b1:(a0_0 != 1) = false:=bne_eq_false_iff_eq.mpr c2
  clear c2
  by_cases c3:0 < (l0_2.length:Int)
  ·rw [if_pos c3] at H
   have c3b0:decide (0 < (l0_2.length:Int)) = true:=decide_eq_true c3
   have c3b1:decide (0 < l0_2.length) = true:=decide_eq_true (by omega)
   clear c3
   replace H:=Option.bind_eq_some_iff.mp H
   obtain ⟨t167,A40,H⟩:=H
   replace H:(if 1 + t167.size ≤ 9223372036854775807 then (if ((⟨#[40]⟩:ByteArray) ++ t167).size + 1 ≤ 9223372036854775807 then (if 1 < (l0_2.length:Int) then ((impl_sealText.f k ((rd_T25 l0_2 1).f0) ((rd_T25 l0_2 1).f1) ((rd_T25 l0_2 1).f2)).bind fun t169=>(if (((⟨#[40]⟩:ByteArray) ++ t167) ++ (⟨#[32]⟩:ByteArray)).size + t169.size ≤ 9223372036854775807 then (if ((((⟨#[40]⟩:ByteArray) ++ t167) ++ (⟨#[32]⟩:ByteArray)) ++ t169).size + 1 ≤ 9223372036854775807 then (some (((((⟨#[40]⟩:ByteArray) ++ t167) ++ (⟨#[32]⟩:ByteArray)) ++ t169) ++ (⟨#[41]⟩:ByteArray))) else (none)) else (none))) else (none)) else (none)) else (none)) = some r:=H
   have A4:=Aside0.mk A40
   clear A40
   by_cases c5:1 + t167.size ≤ 9223372036854775807
   ·rw [if_pos c5] at H
    have c5b0:=eq_true c5
    have c5b1:decide (1 + t167.size ≤ 9223372036854775807) = true:=decide_eq_true c5
    try have c5b2:(9223372036854775807 < 1 + t167.size) = False:=eq_false (Nat.not_lt.2 c5)
    by_cases c6:((⟨#[40]⟩:ByteArray) ++ t167).size + 1 ≤ 9223372036854775807
    ·rw [if_pos c6] at H
     have c6b0:=eq_true c6
     have c6b1:decide (((⟨#[40]⟩:ByteArray) ++ t167).size + 1 ≤ 9223372036854775807) = true:=decide_eq_true c6
     try have c6b2:(9223372036854775807 < ((⟨#[40]⟩:ByteArray) ++ t167).size + 1) = False:=eq_false (Nat.not_lt.2 c6)
     try (have c6b3:=c6b2;simp only [ByteArray.size_append,show (⟨#[40]⟩:ByteArray).size = 1 from rfl] at c6b3)
     by_cases c7:1 < (l0_2.length:Int)
     ·rw [if_pos c7] at H
      have c7b0:decide (1 < (l0_2.length:Int)) = true:=decide_eq_true c7
      have c7b1:decide (1 < l0_2.length) = true:=decide_eq_true (by omega)
      clear c7
      replace H:=Option.bind_eq_some_iff.mp H
      obtain ⟨t169,A80,H⟩:=H
      replace H:(if (((⟨#[40]⟩:ByteArray) ++ t167) ++ (⟨#[32]⟩:ByteArray)).size + t169.size ≤ 9223372036854775807 then (if ((((⟨#[40]⟩:ByteArray) ++ t167) ++ (⟨#[32]⟩:ByteArray)) ++ t169).size + 1 ≤ 9223372036854775807 then (some (((((⟨#[40]⟩:ByteArray) ++ t167) ++ (⟨#[32]⟩:ByteArray)) ++ t169) ++ (⟨#[41]⟩:ByteArray))) else (none)) else (none)) = some r:=H
      have A8:=Aside0.mk A80
      clear A80
      by_cases c9:(((⟨#[40]⟩:ByteArray) ++ t167) ++ (⟨#[32]⟩:ByteArray)).size + t169.size ≤ 9223372036854775807
      ·rw [if_pos c9] at H
       have c9b0:=eq_true c9
       have c9b1:decide ((((⟨#[40]⟩:ByteArray) ++ t167) ++ (⟨#[32]⟩:ByteArray)).size + t169.size ≤ 9223372036854775807) = true:=decide_eq_true c9
       try have c9b2:(9223372036854775807 < (((⟨#[40]⟩:ByteArray) ++ t167) ++ (⟨#[32]⟩:ByteArray)).size + t169.size) = False:=eq_false (Nat.not_lt.2 c9)
       try (have c9b3:=c9b2;simp only [ByteArray.size_append,show (⟨#[32]⟩:ByteArray).size = 1 from rfl,show (⟨#[40]⟩:ByteArray).size = 1 from rfl] at c9b3)
       by_cases c10:((((⟨#[40]⟩:ByteArray) ++ t167) ++ (⟨#[32]⟩:ByteArray)) ++ t169).size + 1 ≤ 9223372036854775807
       ·rw [if_pos c10] at H
        have c10b0:=eq_true c10
        have c10b1:decide (((((⟨#[40]⟩:ByteArray) ++ t167) ++ (⟨#[32]⟩:ByteArray)) ++ t169).size + 1 ≤ 9223372036854775807) = true:=decide_eq_true c10
        try have c10b2:(9223372036854775807 < ((((⟨#[40]⟩:ByteArray) ++ t167) ++ (⟨#[32]⟩:ByteArray)) ++ t169).size + 1) = False:=eq_false (Nat.not_lt.2 c10)
        try (have c10b3:=c10b2;simp only [ByteArray.size_append,show (⟨#[32]⟩:ByteArray).size = 1 from rfl,show (⟨#[40]⟩:ByteArray).size = 1 from rfl] at c10b3)
        obtain rfl:=Option.some.inj H
        go_enter Tryd.func46,Tryd.ntmps46
        try go_wp2_with (first | ((with_reducible refine gate_dst (N:=1) rfl ?_);refine box_event ?hg (N:=1) ?hd (cs:=#[.int .i64 a0_0,.int .i64 a0_1,.slice A0_2 l0_2.length c0_2]) (t:=25) ?hr ?_;(case hd=>rfl);(case hg=>rfl);(case hr=>first | (go_simp;done) | (go_simp;rfl));intro gb165 hg w11 hbox hb;have n0_:=Aside0.mk (below_step (by repeat (first | (with_reducible first | exact HB.out | apply below_alloc | apply pw_below_drewN | apply below_drew1) | exact HB.out)) hb);have n1_:=Aside0.mk (hbox);have n2_:=Aside0.mk ((by rw [hg];exact (below_size (by repeat (first | (with_reducible first | exact HB.out | apply below_alloc | apply pw_below_drewN | apply below_drew1) | exact HB.out))):w.heap.size ≤ gb165));have n3_:=Aside0.mk ((by rw [hg];exact (below_size (by repeat (first | (with_reducible first | exact HB.out | apply below_alloc | apply pw_below_drewN | apply below_drew1) | exact HB.out))):w.heap.size ≤ gb165));clear HB;have HB:=n0_;have BK165:=n1_;have GW165:=n2_;have GE165:=n3_;clear n0_ n1_ n2_ n3_;clear hb hbox hg;have hcz12_0:w11.cell? ⟨gb165,0,none⟩ = some (.int .i64 a0_0):=(blk_cell BK165.out 0).trans rfl;have hcz12_1:w11.cell? ⟨gb165,1,none⟩ = some (.int .i64 a0_1):=(blk_cell BK165.out 1).trans rfl;have hcz12_2:w11.cell? ⟨gb165,2,none⟩ = some (.slice A0_2 l0_2.length c0_2):=(blk_cell BK165.out 2).trans rfl;have hfz12_0:=blk_frozen BK165.out 0;have hfz12_1:=blk_frozen BK165.out 1;have hfz12_2:=blk_frozen BK165.out 2))
        have n0_:=Aside0.mk (blk_drew BK165.out)
        have n1_:=Aside0.mk (below_drew1 HB.out)
        clear BK165
        clear HB
        have BK165:=n0_
        have HB:=n1_
        clear n0_ n1_
        have p166:0 ≤ (0:Int):=(by omega)
        have q166:0 < (l0_2.length:Int):=of_decide_eq_true (by first | (with_reducible assumption) | assumption)
        obtain ⟨ad166,A166_2,c166_2,e166,hx166_0,hx166_1,hx166_2,hl166_2,hi166_2⟩:=at_T25 HR0_2.out 0 p166 q166
        have hw166_2:=hx166_2
        (try rw [show ((0:Int)).toNat = 0 from rfl] at hw166_2)
        (try rw [show 0 * 3 = 0 from rfl] at hw166_2)
        (try rw [Addr.add_zero'] at hw166_2)
        have hw166_1:=hx166_1
        (try rw [show ((0:Int)).toNat = 0 from rfl] at hw166_1)
        (try rw [show 0 * 3 = 0 from rfl] at hw166_1)
        (try rw [Addr.add_zero'] at hw166_1)
        have hw166_0:=hx166_0
        (try rw [show ((0:Int)).toNat = 0 from rfl] at hw166_0)
        (try rw [show 0 * 3 = 0 from rfl] at hw166_0)
        (try rw [Addr.add_zero'] at hw166_0)
        cases e166
        have qi166:(0 < l0_2.length) = True:=eq_true (by omega)
        (try rw [show ((0:Int)).toNat = 0 from rfl] at hx166_0)
        (try rw [show 0 * 3 = 0 from rfl] at hx166_0)
        (try rw [Addr.add_zero'] at hx166_0)
        (try rw [show ((0:Int)).toNat = 0 from rfl] at hx166_1)
        (try rw [show 0 * 3 = 0 from rfl] at hx166_1)
        (try rw [Addr.add_zero'] at hx166_1)
        (try rw [show ((0:Int)).toNat = 0 from rfl] at hx166_2)
        (try rw [show 0 * 3 = 0 from rfl] at hx166_2)
        (try rw [Addr.add_zero'] at hx166_2)
        replace hx166_0:=(HB.out.cell (World.block_lt_of_cell? w _ hx166_0)).trans hx166_0
        replace hx166_1:=(HB.out.cell (World.block_lt_of_cell? w _ hx166_1)).trans hx166_1
        replace hx166_2:=(HB.out.cell (World.block_lt_of_cell? w _ hx166_2)).trans hx166_2
        have HR166_2:=Aside0.mk hi166_2
        have HC166_2:=Aside0.mk hl166_2
        clear hi166_2 hl166_2
        replace p166:=eq_true p166
        replace q166:=eq_true q166
        have p168:0 ≤ (1:Int):=(by omega)
        have q168:1 < (l0_2.length:Int):=of_decide_eq_true (by first | (with_reducible assumption) | assumption)
        obtain ⟨ad168,A168_2,c168_2,e168,hx168_0,hx168_1,hx168_2,hl168_2,hi168_2⟩:=at_T25 HR0_2.out 1 p168 q168
        have hw168_2:=hx168_2
        (try rw [show ((1:Int)).toNat = 1 from rfl] at hw168_2)
        (try rw [show 1 * 3 = 3 from rfl] at hw168_2)
        (try simp only [Nat.reduceMul,Nat.reduceEqDiff,Go.Addr.add,↓reduceIte] at hw168_2)
        have hw168_1:=hx168_1
        (try rw [show ((1:Int)).toNat = 1 from rfl] at hw168_1)
        (try rw [show 1 * 3 = 3 from rfl] at hw168_1)
        (try simp only [Nat.reduceMul,Nat.reduceEqDiff,Go.Addr.add,↓reduceIte] at hw168_1)
        have hw168_0:=hx168_0
        (try rw [show ((1:Int)).toNat = 1 from rfl] at hw168_0)
        (try rw [show 1 * 3 = 3 from rfl] at hw168_0)
        (try simp only [Nat.reduceMul,Nat.reduceEqDiff,Go.Addr.add,↓reduceIte] at hw168_0)
        obtain rfl:ad166 = ad168:=(by injection e168)
        (try simp only [show (1:Int).toNat = 1 from rfl,Nat.reduceMul,Nat.reduceEqDiff,Go.Addr.add,↓reduceIte] at hx168_0)
        (try simp only [show (1:Int).toNat = 1 from rfl,Nat.reduceMul,Nat.reduceEqDiff,Go.Addr.add,↓reduceIte] at hx168_1)
        (try simp only [show (1:Int).toNat = 1 from rfl,Nat.reduceMul,Nat.reduceEqDiff,Go.Addr.add,↓reduceIte] at hx168_2)
        have qi168:(1 < l0_2.length) = True:=eq_true (by omega)
        (try rw [show ((1:Int)).toNat = 1 from rfl] at hx168_0)
        (try rw [show 1 * 3 = 3 from rfl] at hx168_0)
        (try rw [show ((1:Int)).toNat = 1 from rfl] at hx168_1)
        (try rw [show 1 * 3 = 3 from rfl] at hx168_1)
        (try rw [show ((1:Int)).toNat = 1 from rfl] at hx168_2)
        (try rw [show 1 * 3 = 3 from rfl] at hx168_2)
        replace hx168_0:=(HB.out.cell (World.block_lt_of_cell? w _ hx168_0)).trans hx168_0
        replace hx168_1:=(HB.out.cell (World.block_lt_of_cell? w _ hx168_1)).trans hx168_1
        replace hx168_2:=(HB.out.cell (World.block_lt_of_cell? w _ hx168_2)).trans hx168_2
        have HR168_2:=Aside0.mk hi168_2
        have HC168_2:=Aside0.mk hl168_2
        clear hi168_2 hl168_2
        replace p168:=eq_true p168
        replace q168:=eq_true q168
        refine start_ (n:=15) (S:=fun w'=>w'.cell? ⟨gb165,0,none⟩ = some (.int .i64 a0_0)∧w'.cell? ⟨gb165,1,none⟩ = some (.int .i64 a0_1)∧w'.cell? ⟨gb165,2,none⟩ = some (.slice (some ad166) l0_2.length c0_2)∧w'.cell? ad166 = some (.int .i64 ((rd_T25 l0_2 0).f0))∧w'.cell? ⟨ad166.block,ad166.off + 1,none⟩ = some (.int .i64 ((rd_T25 l0_2 0).f1))∧w'.cell? ⟨ad166.block,ad166.off + 2,none⟩ = some (.slice A166_2 ((rd_T25 l0_2 0).f2).length c166_2)∧w'.cell? ⟨ad166.block,ad166.off + 3,none⟩ = some (.int .i64 ((rd_T25 l0_2 1).f0))∧w'.cell? ⟨ad166.block,ad166.off + 3 + 1,none⟩ = some (.int .i64 ((rd_T25 l0_2 1).f1))∧w'.cell? ⟨ad166.block,ad166.off + 3 + 2,none⟩ = some (.slice A168_2 ((rd_T25 l0_2 1).f2).length c168_2)) (ds:=[]) #[false,false,false,false,false,false,false,false,false,false,false,false,false,false,false] (by kernel_rfl) rfl rfl ⟨(blk_cell BK165.out 0).trans rfl,(blk_cell BK165.out 1).trans rfl,(blk_cell BK165.out 2).trans rfl,((HB.out.cell (World.block_lt_of_cell? w _ hw166_0)).trans hw166_0),((HB.out.cell (World.block_lt_of_cell? w _ hw166_1)).trans hw166_1),((HB.out.cell (World.block_lt_of_cell? w _ hw166_2)).trans hw166_2),((HB.out.cell (World.block_lt_of_cell? w _ hw168_0)).trans hw168_0),((HB.out.cell (World.block_lt_of_cell? w _ hw168_1)).trans hw168_1),((HB.out.cell (World.block_lt_of_cell? w _ hw168_2)).trans hw168_2)⟩ (fun hHeld=>?_);refine with_tabW impl_sealText.tab3 impl_sealText.bits3 (fun HT_ HW_=>?_)
        generalize w11.drew = w13 at BK165 HB HR166_2 HR168_2 hx166_0 hx166_1 hx166_2 hx168_0 hx168_1 hx168_2 hHeld ⊢
        refine pure_ (i:=0) (N:=some 7) (v:=?_) (a':=?_) #[true,false,false,false,false,false,false,false,false,false,false,false,false,false,false] rfl rfl (any_of HT_.out (by kernel_rfl)) (fun _ _ _ h=>h) (Or.inl ⟨by rfl,?_⟩) ?_ ?_
        rotate_left;·intro w';go_simp;with_reducible rfl
        rotate_left;·simp only [Act.put,List.setIfInBounds_toArray,List.set_cons_zero,List.set_cons_succ,i64_w,i32_w];rfl
        refine pure_ (i:=7) (N:=some 14) (v:=?_) (a':=?_) #[true,false,false,false,false,false,false,true,false,false,false,false,false,false,false] rfl rfl (any_of HT_.out (by kernel_rfl)) (fun _ _ _ h=>h) (Or.inl ⟨by rfl,?_⟩) ?_ ?_
        rotate_left;·intro w';go_simp;with_reducible rfl
        rotate_left;·simp only [Act.put,List.setIfInBounds_toArray,List.set_cons_zero,List.set_cons_succ,i64_w,i32_w];rfl
        refine take_ (i:=1) (N:=some 8) (v:=?_) (a':=?_) #[true,true,false,false,false,false,false,true,false,false,false,false,false,false,false] rfl rfl (take_ofW HT_.out HW_.out (by kernel_rfl)) (fun _ _ _ h=>h) (Or.inl ⟨by rfl,?_⟩) hHeld ?_ ?_
        rotate_left;·rintro w' ⟨s0,s1,s2,s3,s4,s5,s6,s7,s8⟩;go_simp;with_reducible rfl
        rotate_left;·simp only [Act.put,List.setIfInBounds_toArray,List.set_cons_zero,List.set_cons_succ,i64_w,i32_w];rfl
        refine pure_ (i:=2) (N:=some 9) (v:=?_) (a':=?_) #[true,true,true,false,false,false,false,true,false,false,false,false,false,false,false] rfl rfl (any_of HT_.out (by kernel_rfl)) (fun _ _ _ h=>h) (Or.inl ⟨by rfl,?_⟩) ?_ ?_
        rotate_left;·intro w';go_simp;with_reducible rfl
        rotate_left;·simp only [Act.put,List.setIfInBounds_toArray,List.set_cons_zero,List.set_cons_succ,i64_w,i32_w];rfl
        refine take_ (i:=3) (N:=some 10) (v:=?_) (a':=?_) #[true,true,true,true,false,false,false,true,false,false,false,false,false,false,false] rfl rfl (take_ofW HT_.out HW_.out (by kernel_rfl)) (fun _ _ _ h=>h) (Or.inl ⟨by rfl,?_⟩) hHeld ?_ ?_
        rotate_left;·rintro w' ⟨s0,s1,s2,s3,s4,s5,s6,s7,s8⟩;go_simp;with_reducible rfl
        rotate_left;·simp only [Act.put,List.setIfInBounds_toArray,List.set_cons_zero,List.set_cons_succ,i64_w,i32_w];rfl
        refine take_ (i:=8) (N:=some 15) (v:=?_) (a':=?_) #[true,true,true,true,false,false,false,true,true,false,false,false,false,false,false] rfl rfl (take_ofW HT_.out HW_.out (by kernel_rfl)) (fun _ _ _ h=>h) (Or.inl ⟨by rfl,?_⟩) hHeld ?_ ?_
        rotate_left;·rintro w' ⟨s0,s1,s2,s3,s4,s5,s6,s7,s8⟩;go_simp;with_reducible rfl
        rotate_left;·simp only [Act.put,List.setIfInBounds_toArray,List.set_cons_zero,List.set_cons_succ,i64_w,i32_w];rfl
        refine pure_ (i:=9) (N:=some 16) (v:=?_) (a':=?_) #[true,true,true,true,false,false,false,true,true,true,false,false,false,false,false] rfl rfl (any_of HT_.out (by kernel_rfl)) (fun _ _ _ h=>h) (Or.inl ⟨by rfl,?_⟩) ?_ ?_
        rotate_left;·intro w';go_simp;with_reducible rfl
        rotate_left;·simp only [Act.put,List.setIfInBounds_toArray,List.set_cons_zero,List.set_cons_succ,i64_w,i32_w];rfl
        refine take_ (i:=10) (N:=some 17) (v:=?_) (a':=?_) #[true,true,true,true,false,false,false,true,true,true,true,false,false,false,false] rfl rfl (take_ofW HT_.out HW_.out (by kernel_rfl)) (fun _ _ _ h=>h) (Or.inl ⟨by rfl,?_⟩) hHeld ?_ ?_
        rotate_left;·rintro w' ⟨s0,s1,s2,s3,s4,s5,s6,s7,s8⟩;go_simp;with_reducible rfl
        rotate_left;·simp only [Act.put,List.setIfInBounds_toArray,List.set_cons_zero,List.set_cons_succ,i64_w,i32_w];rfl
        refine one_ (i:=4) (N:=some 11) #[true,true,true,true,true,false,false,true,true,true,true,false,false,false,false] rfl rfl (one_of HT_.out (by kernel_rfl)) (by decide) (fun K hK=>?_)
        refine goes_ Tryd.func46 (by kernel_rfl) rfl #[.agg #[.int .i64 ((rd_T25 l0_2 0).f0),.int .i64 ((rd_T25 l0_2 0).f1),.slice A166_2 ((rd_T25 l0_2 0).f2).length c166_2]] (by rfl) rfl rfl (by (try simp only [List.map_toArray,List.map_cons,List.map_nil]);first | done | rfl | (simp only [List.length_drop,List.length_take];rfl)) ?_
        with_reducible refine (ih k (by omega) ((rd_T25 l0_2 0).f0) ((rd_T25 l0_2 0).f1) _ _ ((rd_T25 l0_2 0).f2) t167 _ ?side1 ?side2 A4.out).mono ?_
        (case side1=>repeat (first | exact (Kd.C_below HR166_2.out HB.out) | (with_reducible refine Kd.C_alloc ?_ _) | (with_reducible refine Kd.C_drewN ?_ _) | (with_reducible refine Kd.C_drew ?_)))
        (case side2=>exact HC166_2.out)
        rintro e w14 ⟨rfl,hb⟩
        refine ⟨_,rfl,?_⟩
        have n0_:=Aside0.mk (blk_below (g:=gb165) (o:=.cells #[.int .i64 a0_0,.int .i64 a0_1,.slice (some ad166) l0_2.length c0_2] 25 (0,0)) (by (with_reducible repeat (first | refine blk_drewN ?_ _ | refine blk_drew ?_ | refine blk_alloc ?_ _));exact BK165.out) hb)
        have n1_:=Aside0.mk (below_step (by repeat (first | (with_reducible first | exact HB.out | apply below_alloc | apply pw_below_drewN | apply below_drew1 | refine below_set ?_ GE165.out) | exact HB.out)) hb)
        clear BK165
        clear HB
        have BK165:=n0_
        have HB:=n1_
        clear n0_ n1_
        (try clear hb)
        (try clear hb2)
        (try clear hk)
        (try clear hi)
        refine hK.out _ _ ⟨(blk_cell BK165.out 0).trans rfl,(blk_cell BK165.out 1).trans rfl,(blk_cell BK165.out 2).trans rfl,((HB.out.cell (World.block_lt_of_cell? w _ hw166_0)).trans hw166_0),((HB.out.cell (World.block_lt_of_cell? w _ hw166_1)).trans hw166_1),((HB.out.cell (World.block_lt_of_cell? w _ hw166_2)).trans hw166_2),((HB.out.cell (World.block_lt_of_cell? w _ hw168_0)).trans hw168_0),((HB.out.cell (World.block_lt_of_cell? w _ hw168_1)).trans hw168_1),((HB.out.cell (World.block_lt_of_cell? w _ hw168_2)).trans hw168_2)⟩ (fun hHeld=>?_)
        clear hK K
        refine norm_ (a':=?_) ?_ ?_
        rotate_left
        ·show Act.put _ (some 11) _ = _
         simp only [Act.put,List.setIfInBounds_toArray,List.set_cons_zero,List.set_cons_succ,i64_w,i32_w]
         rfl
        refine pure_ (i:=5) (N:=some 12) (v:=?_) (a':=?_) #[true,true,true,true,true,true,false,true,true,true,true,false,false,false,false] rfl rfl (any_of HT_.out (by kernel_rfl)) (fun _ _ _ h=>h) (Or.inl ⟨by rfl,?_⟩) ?_ ?_
        rotate_left;·intro w';go_simp;with_reducible rfl
        rotate_left;·simp only [Act.put,List.setIfInBounds_toArray,List.set_cons_zero,List.set_cons_succ,i64_w,i32_w];rfl
        refine pure_ (i:=6) (N:=some 13) (v:=?_) (a':=?_) #[true,true,true,true,true,true,true,true,true,true,true,false,false,false,false] rfl rfl (any_of HT_.out (by kernel_rfl)) (fun _ _ _ h=>h) (Or.inl ⟨by rfl,?_⟩) ?_ ?_
        rotate_left;·intro w';go_simp;with_reducible rfl
        rotate_left;·simp only [Act.put,List.setIfInBounds_toArray,List.set_cons_zero,List.set_cons_succ,i64_w,i32_w];rfl
        refine one_ (i:=11) (N:=some 18) #[true,true,true,true,true,true,true,true,true,true,true,true,false,false,false] rfl rfl (one_of HT_.out (by kernel_rfl)) (by decide) (fun K hK=>?_)
        refine goes_ Tryd.func46 (by kernel_rfl) rfl #[.agg #[.int .i64 ((rd_T25 l0_2 1).f0),.int .i64 ((rd_T25 l0_2 1).f1),.slice A168_2 ((rd_T25 l0_2 1).f2).length c168_2]] (by rfl) rfl rfl (by (try simp only [List.map_toArray,List.map_cons,List.map_nil]);first | done | rfl | (simp only [List.length_drop,List.length_take];rfl)) ?_
        with_reducible refine (ih k (by omega) ((rd_T25 l0_2 1).f0) ((rd_T25 l0_2 1).f1) _ _ ((rd_T25 l0_2 1).f2) t169 _ ?side1 ?side2 A8.out).mono ?_
        (case side1=>repeat (first | exact (Kd.C_below HR168_2.out HB.out) | (with_reducible refine Kd.C_alloc ?_ _) | (with_reducible refine Kd.C_drewN ?_ _) | (with_reducible refine Kd.C_drew ?_)))
        (case side2=>exact HC168_2.out)
        rintro e w15 ⟨rfl,hb⟩
        refine ⟨_,rfl,?_⟩
        have n0_:=Aside0.mk (blk_below (g:=gb165) (o:=.cells #[.int .i64 a0_0,.int .i64 a0_1,.slice (some ad166) l0_2.length c0_2] 25 (0,0)) (by (with_reducible repeat (first | refine blk_drewN ?_ _ | refine blk_drew ?_ | refine blk_alloc ?_ _));exact BK165.out) hb)
        have n1_:=Aside0.mk (below_step (by repeat (first | (with_reducible first | exact HB.out | apply below_alloc | apply pw_below_drewN | apply below_drew1 | refine below_set ?_ GE165.out) | exact HB.out)) hb)
        clear BK165
        clear HB
        have BK165:=n0_
        have HB:=n1_
        clear n0_ n1_
        (try clear hb)
        (try clear hb2)
        (try clear hk)
        (try clear hi)
        refine hK.out _ _ ⟨(blk_cell BK165.out 0).trans rfl,(blk_cell BK165.out 1).trans rfl,(blk_cell BK165.out 2).trans rfl,((HB.out.cell (World.block_lt_of_cell? w _ hw166_0)).trans hw166_0),((HB.out.cell (World.block_lt_of_cell? w _ hw166_1)).trans hw166_1),((HB.out.cell (World.block_lt_of_cell? w _ hw166_2)).trans hw166_2),((HB.out.cell (World.block_lt_of_cell? w _ hw168_0)).trans hw168_0),((HB.out.cell (World.block_lt_of_cell? w _ hw168_1)).trans hw168_1),((HB.out.cell (World.block_lt_of_cell? w _ hw168_2)).trans hw168_2)⟩ (fun hHeld=>?_)
        clear hK K
        refine norm_ (a':=?_) ?_ ?_
        rotate_left
        ·show Act.put _ (some 18) _ = _
         simp only [Act.put,List.setIfInBounds_toArray,List.set_cons_zero,List.set_cons_succ,i64_w,i32_w]
         rfl
        refine pure_ (i:=12) (N:=some 19) (v:=?_) (a':=?_) #[true,true,true,true,true,true,true,true,true,true,true,true,true,false,false] rfl rfl (any_of HT_.out (by kernel_rfl)) (fun _ _ _ h=>h) (Or.inl ⟨by rfl,?_⟩) ?_ ?_
        rotate_left;·intro w';go_simp;with_reducible rfl
        rotate_left;·simp only [Act.put,List.setIfInBounds_toArray,List.set_cons_zero,List.set_cons_succ,i64_w,i32_w];rfl
        refine pure_ (i:=13) (N:=some 20) (v:=?_) (a':=?_) #[true,true,true,true,true,true,true,true,true,true,true,true,true,true,false] rfl rfl (any_of HT_.out (by kernel_rfl)) (fun _ _ _ h=>h) (Or.inl ⟨by rfl,?_⟩) ?_ ?_
        rotate_left;·intro w';go_simp;with_reducible rfl
        rotate_left;·simp only [Act.put,List.setIfInBounds_toArray,List.set_cons_zero,List.set_cons_succ,i64_w,i32_w];rfl
        refine pure_ (i:=14) (N:=some 2) (v:=?_) (a':=?_) #[true,true,true,true,true,true,true,true,true,true,true,true,true,true,true] rfl rfl (any_of HT_.out (by kernel_rfl)) (fun _ _ _ h=>h) (Or.inl ⟨by rfl,?_⟩) ?_ ?_
        rotate_left;·intro w';go_simp;with_reducible rfl
        rotate_left;·simp only [Act.put,List.setIfInBounds_toArray,List.set_cons_zero,List.set_cons_succ,i64_w,i32_w];rfl
        refine done_ (done_of HT_.out (by kernel_rfl)) ?_
        try go_wp2
        go_ret
        exact ⟨by first | rfl | (simp [errW_none,errW_some] <;> rfl) | (simp [*,errW_none,errW_some] <;> rfl),by repeat (first | (with_reducible first | exact HB.out | apply below_alloc | apply pw_below_drewN | apply below_drew1 | refine below_set ?_ GE165.out) | exact HB.out)⟩
       ·rw [if_neg c10] at H
        exact absurd H (by simp)
      ·rw [if_neg c9] at H
       exact absurd H (by simp)
     ·rw [if_neg c7] at H
      exact absurd H (by simp)
    ·rw [if_neg c6] at H
     exact absurd H (by simp)
   ·rw [if_neg c5] at H
    exact absurd H (by simp)
  ·rw [if_neg c3] at H
   exact absurd H (by simp)
 ·rw [if_neg c2] at H
  have c2b0:(a0_0 == 1) = false:=beq_eq_false_iff_ne.mpr c2
  have c2b1:(a0_0 != 1) = true:=bne_iff_ne.mpr c2
  by_cases c16:a0_0 = 2
  ·rw [if_pos c16] at H
   have c16b0:(a0_0 == 2) = true:=beq_iff_eq.mpr c16
   have c16b1:(a0_0 != 2) = false:=bne_eq_false_iff_eq.mpr c16
   clear c16
   by_cases c17:1 < (l0_2.length:Int)
   ·rw [if_pos c17] at H
    have c17b0:decide (1 < (l0_2.length:Int)) = true:=decide_eq_true c17
    have c17b1:decide (1 < l0_2.length) = true:=decide_eq_true (by omega)
    clear c17
    replace H:=Option.bind_eq_some_iff.mp H
    obtain ⟨t171,A180,H⟩:=H
    replace H:(if 1 + t171.size ≤ 9223372036854775807 then (if ((⟨#[123]⟩:ByteArray) ++ t171).size + 1 ≤ 9223372036854775807 then (if 0 < (l0_2.length:Int) then ((impl_sealText.f k ((rd_T25 l0_2 0).f0) ((rd_T25 l0_2 0).f1) ((rd_T25 l0_2 0).f2)).bind fun t173=>(if (((⟨#[123]⟩:ByteArray) ++ t171) ++ (⟨#[125]⟩:ByteArray)).size + t173.size ≤ 9223372036854775807 then (some ((((⟨#[123]⟩:ByteArray) ++ t171) ++ (⟨#[125]⟩:ByteArray)) ++ t173)) else (none))) else (none)) else (none)) else (none)) = some r:=H
    have A18:=Aside0.mk A180
    clear A180
    by_cases c19:1 + t171.size ≤ 9223372036854775807
    ·rw [if_pos c19] at H
     have c19b0:=eq_true c19
     have c19b1:decide (1 + t171.size ≤ 9223372036854775807) = true:=decide_eq_true c19
     try have c19b2:(9223372036854775807 < 1 + t171.size) = False:=eq_false (Nat.not_lt.2 c19)
     by_cases c20:((⟨#[123]⟩:ByteArray) ++ t171).size + 1 ≤ 9223372036854775807
     ·rw [if_pos c20] at H
      have c20b0:=eq_true c20
      have c20b1:decide (((⟨#[123]⟩:ByteArray) ++ t171).size + 1 ≤ 9223372036854775807) = true:=decide_eq_true c20
      try have c20b2:(9223372036854775807 < ((⟨#[123]⟩:ByteArray) ++ t171).size + 1) = False:=eq_false (Nat.not_lt.2 c20)
      try (have c20b3:=c20b2;simp only [ByteArray.size_append,show (⟨#[123]⟩:ByteArray).size = 1 from rfl] at c20b3)
      by_cases c21:0 < (l0_2.length:Int)
      ·rw [if_pos c21] at H
       have c21b0:decide (0 < (l0_2.length:Int)) = true:=decide_eq_true c21
       have c21b1:decide (0 < l0_2.length) = true:=decide_eq_true (by omega)
       clear c21
       replace H:=Option.bind_eq_some_iff.mp H
       obtain ⟨t173,A220,H⟩:=H
       replace H:(if (((⟨#[123]⟩:ByteArray) ++ t171) ++ (⟨#[125]⟩:ByteArray)).size + t173.size ≤ 9223372036854775807 then (some ((((⟨#[123]⟩:ByteArray) ++ t171) ++ (⟨#[125]⟩:ByteArray)) ++ t173)) else (none)) = some r:=H
       have A22:=Aside0.mk A220
       clear A220
       by_cases c23:(((⟨#[123]⟩:ByteArray) ++ t171) ++ (⟨#[125]⟩:ByteArray)).size + t173.size ≤ 9223372036854775807
       ·rw [if_pos c23] at H
        have c23b0:=eq_true c23
        have c23b1:decide ((((⟨#[123]⟩:ByteArray) ++ t171) ++ (⟨#[125]⟩:ByteArray)).size + t173.size ≤ 9223372036854775807) = true:=decide_eq_true c23
        try have c23b2:(9223372036854775807 < (((⟨#[123]⟩:ByteArray) ++ t171) ++ (⟨#[125]⟩:ByteArray)).size + t173.size) = False:=eq_false (Nat.not_lt.2 c23)
        try (have c23b3:=c23b2;simp only [ByteArray.size_append,show (⟨#[123]⟩:ByteArray).size = 1 from rfl,show (⟨#[125]⟩:ByteArray).size = 1 from rfl] at c23b3)
        obtain rfl:=Option.some.inj H
        go_enter Tryd.func46,Tryd.ntmps46
        try go_wp2_with (first | ((with_reducible refine gate_dst (N:=1) rfl ?_);refine box_event ?hg (N:=1) ?hd (cs:=#[.int .i64 a0_0,.int .i64 a0_1,.slice A0_2 l0_2.length c0_2]) (t:=25) ?hr ?_;(case hd=>rfl);(case hg=>rfl);(case hr=>first | (go_simp;done) | (go_simp;rfl));intro gb165 hg w24 hbox hb;have n0_:=Aside0.mk (below_step (by repeat (first | (with_reducible first | exact HB.out | apply below_alloc | apply pw_below_drewN | apply below_drew1) | exact HB.out)) hb);have n1_:=Aside0.mk (hbox);have n2_:=Aside0.mk ((by rw [hg];exact (below_size (by repeat (first | (with_reducible first | exact HB.out | apply below_alloc | apply pw_below_drewN | apply below_drew1) | exact HB.out))):w.heap.size ≤ gb165));have n3_:=Aside0.mk ((by rw [hg];exact (below_size (by repeat (first | (with_reducible first | exact HB.out | apply below_alloc | apply pw_below_drewN | apply below_drew1) | exact HB.out))):w.heap.size ≤ gb165));clear HB;have HB:=n0_;have BK165:=n1_;have GW165:=n2_;have GE165:=n3_;clear n0_ n1_ n2_ n3_;clear hb hbox hg;have hcz25_0:w24.cell? ⟨gb165,0,none⟩ = some (.int .i64 a0_0):=(blk_cell BK165.out 0).trans rfl;have hcz25_1:w24.cell? ⟨gb165,1,none⟩ = some (.int .i64 a0_1):=(blk_cell BK165.out 1).trans rfl;have hcz25_2:w24.cell? ⟨gb165,2,none⟩ = some (.slice A0_2 l0_2.length c0_2):=(blk_cell BK165.out 2).trans rfl;have hfz25_0:=blk_frozen BK165.out 0;have hfz25_1:=blk_frozen BK165.out 1;have hfz25_2:=blk_frozen BK165.out 2))
        have n0_:=Aside0.mk (blk_drew BK165.out)
        have n1_:=Aside0.mk (below_drew1 HB.out)
        clear BK165
        clear HB
        have BK165:=n0_
        have HB:=n1_
        clear n0_ n1_
        have p170:0 ≤ (1:Int):=(by omega)
        have q170:1 < (l0_2.length:Int):=of_decide_eq_true (by first | (with_reducible assumption) | assumption)
        obtain ⟨ad170,A170_2,c170_2,e170,hx170_0,hx170_1,hx170_2,hl170_2,hi170_2⟩:=at_T25 HR0_2.out 1 p170 q170
        have hw170_2:=hx170_2
        (try rw [show ((1:Int)).toNat = 1 from rfl] at hw170_2)
        (try rw [show 1 * 3 = 3 from rfl] at hw170_2)
        (try simp only [Nat.reduceMul,Nat.reduceEqDiff,Go.Addr.add,↓reduceIte] at hw170_2)
        have hw170_1:=hx170_1
        (try rw [show ((1:Int)).toNat = 1 from rfl] at hw170_1)
        (try rw [show 1 * 3 = 3 from rfl] at hw170_1)
        (try simp only [Nat.reduceMul,Nat.reduceEqDiff,Go.Addr.add,↓reduceIte] at hw170_1)
        have hw170_0:=hx170_0
        (try rw [show ((1:Int)).toNat = 1 from rfl] at hw170_0)
        (try rw [show 1 * 3 = 3 from rfl] at hw170_0)
        (try simp only [Nat.reduceMul,Nat.reduceEqDiff,Go.Addr.add,↓reduceIte] at hw170_0)
        cases e170
        (try simp only [show (1:Int).toNat = 1 from rfl,Nat.reduceMul,Nat.reduceEqDiff,Go.Addr.add,↓reduceIte] at hx170_0)
        (try simp only [show (1:Int).toNat = 1 from rfl,Nat.reduceMul,Nat.reduceEqDiff,Go.Addr.add,↓reduceIte] at hx170_1)
        (try simp only [show (1:Int).toNat = 1 from rfl,Nat.reduceMul,Nat.reduceEqDiff,Go.Addr.add,↓reduceIte] at hx170_2)
        have qi170:(1 < l0_2.length) = True:=eq_true (by omega)
        (try rw [show ((1:Int)).toNat = 1 from rfl] at hx170_0)
        (try rw [show 1 * 3 = 3 from rfl] at hx170_0)
        (try rw [show ((1:Int)).toNat = 1 from rfl] at hx170_1)
        (try rw [show 1 * 3 = 3 from rfl] at hx170_1)
        (try rw [show ((1:Int)).toNat = 1 from rfl] at hx170_2)
        (try rw [show 1 * 3 = 3 from rfl] at hx170_2)
        replace hx170_0:=(HB.out.cell (World.block_lt_of_cell? w _ hx170_0)).trans hx170_0
        replace hx170_1:=(HB.out.cell (World.block_lt_of_cell? w _ hx170_1)).trans hx170_1
        replace hx170_2:=(HB.out.cell (World.block_lt_of_cell? w _ hx170_2)).trans hx170_2
        have HR170_2:=Aside0.mk hi170_2
        have HC170_2:=Aside0.mk hl170_2
        clear hi170_2 hl170_2
        replace p170:=eq_true p170
        replace q170:=eq_true q170
        have p172:0 ≤ (0:Int):=(by omega)
        have q172:0 < (l0_2.length:Int):=of_decide_eq_true (by first | (with_reducible assumption) | assumption)
        obtain ⟨ad172,A172_2,c172_2,e172,hx172_0,hx172_1,hx172_2,hl172_2,hi172_2⟩:=at_T25 HR0_2.out 0 p172 q172
        have hw172_2:=hx172_2
        (try rw [show ((0:Int)).toNat = 0 from rfl] at hw172_2)
        (try rw [show 0 * 3 = 0 from rfl] at hw172_2)
        (try rw [Addr.add_zero'] at hw172_2)
        have hw172_1:=hx172_1
        (try rw [show ((0:Int)).toNat = 0 from rfl] at hw172_1)
        (try rw [show 0 * 3 = 0 from rfl] at hw172_1)
        (try rw [Addr.add_zero'] at hw172_1)
        have hw172_0:=hx172_0
        (try rw [show ((0:Int)).toNat = 0 from rfl] at hw172_0)
        (try rw [show 0 * 3 = 0 from rfl] at hw172_0)
        (try rw [Addr.add_zero'] at hw172_0)
        obtain rfl:ad170 = ad172:=(by injection e172)
        have qi172:(0 < l0_2.length) = True:=eq_true (by omega)
        (try rw [show ((0:Int)).toNat = 0 from rfl] at hx172_0)
        (try rw [show 0 * 3 = 0 from rfl] at hx172_0)
        (try rw [Addr.add_zero'] at hx172_0)
        (try rw [show ((0:Int)).toNat = 0 from rfl] at hx172_1)
        (try rw [show 0 * 3 = 0 from rfl] at hx172_1)
        (try rw [Addr.add_zero'] at hx172_1)
        (try rw [show ((0:Int)).toNat = 0 from rfl] at hx172_2)
        (try rw [show 0 * 3 = 0 from rfl] at hx172_2)
        (try rw [Addr.add_zero'] at hx172_2)
        replace hx172_0:=(HB.out.cell (World.block_lt_of_cell? w _ hx172_0)).trans hx172_0
        replace hx172_1:=(HB.out.cell (World.block_lt_of_cell? w _ hx172_1)).trans hx172_1
        replace hx172_2:=(HB.out.cell (World.block_lt_of_cell? w _ hx172_2)).trans hx172_2
        have HR172_2:=Aside0.mk hi172_2
        have HC172_2:=Aside0.mk hl172_2
        clear hi172_2 hl172_2
        replace p172:=eq_true p172
        replace q172:=eq_true q172
        refine start_ (n:=14) (S:=fun w'=>w'.cell? ⟨gb165,0,none⟩ = some (.int .i64 a0_0)∧w'.cell? ⟨gb165,1,none⟩ = some (.int .i64 a0_1)∧w'.cell? ⟨gb165,2,none⟩ = some (.slice (some ad170) l0_2.length c0_2)∧w'.cell? ⟨ad170.block,ad170.off + 3,none⟩ = some (.int .i64 ((rd_T25 l0_2 1).f0))∧w'.cell? ⟨ad170.block,ad170.off + 3 + 1,none⟩ = some (.int .i64 ((rd_T25 l0_2 1).f1))∧w'.cell? ⟨ad170.block,ad170.off + 3 + 2,none⟩ = some (.slice A170_2 ((rd_T25 l0_2 1).f2).length c170_2)∧w'.cell? ad170 = some (.int .i64 ((rd_T25 l0_2 0).f0))∧w'.cell? ⟨ad170.block,ad170.off + 1,none⟩ = some (.int .i64 ((rd_T25 l0_2 0).f1))∧w'.cell? ⟨ad170.block,ad170.off + 2,none⟩ = some (.slice A172_2 ((rd_T25 l0_2 0).f2).length c172_2)) (ds:=[]) #[false,false,false,false,false,false,false,false,false,false,false,false,false,false] (by kernel_rfl) rfl rfl ⟨(blk_cell BK165.out 0).trans rfl,(blk_cell BK165.out 1).trans rfl,(blk_cell BK165.out 2).trans rfl,((HB.out.cell (World.block_lt_of_cell? w _ hw170_0)).trans hw170_0),((HB.out.cell (World.block_lt_of_cell? w _ hw170_1)).trans hw170_1),((HB.out.cell (World.block_lt_of_cell? w _ hw170_2)).trans hw170_2),((HB.out.cell (World.block_lt_of_cell? w _ hw172_0)).trans hw172_0),((HB.out.cell (World.block_lt_of_cell? w _ hw172_1)).trans hw172_1),((HB.out.cell (World.block_lt_of_cell? w _ hw172_2)).trans hw172_2)⟩ (fun hHeld=>?_);refine with_tabW impl_sealText.tab5 impl_sealText.bits5 (fun HT_ HW_=>?_)
        generalize w24.drew = w26 at BK165 HB HR170_2 HR172_2 hx170_0 hx170_1 hx170_2 hx172_0 hx172_1 hx172_2 hHeld ⊢
        refine pure_ (i:=0) (N:=some 23) (v:=?_) (a':=?_) #[true,false,false,false,false,false,false,false,false,false,false,false,false,false] rfl rfl (any_of HT_.out (by kernel_rfl)) (fun _ _ _ h=>h) (Or.inl ⟨by rfl,?_⟩) ?_ ?_
        rotate_left;·intro w';go_simp;with_reducible rfl
        rotate_left;·simp only [Act.put,List.setIfInBounds_toArray,List.set_cons_zero,List.set_cons_succ,i64_w,i32_w];rfl
        refine pure_ (i:=7) (N:=some 30) (v:=?_) (a':=?_) #[true,false,false,false,false,false,false,true,false,false,false,false,false,false] rfl rfl (any_of HT_.out (by kernel_rfl)) (fun _ _ _ h=>h) (Or.inl ⟨by rfl,?_⟩) ?_ ?_
        rotate_left;·intro w';go_simp;with_reducible rfl
        rotate_left;·simp only [Act.put,List.setIfInBounds_toArray,List.set_cons_zero,List.set_cons_succ,i64_w,i32_w];rfl
        refine take_ (i:=1) (N:=some 24) (v:=?_) (a':=?_) #[true,true,false,false,false,false,false,true,false,false,false,false,false,false] rfl rfl (take_ofW HT_.out HW_.out (by kernel_rfl)) (fun _ _ _ h=>h) (Or.inl ⟨by rfl,?_⟩) hHeld ?_ ?_
        rotate_left;·rintro w' ⟨s0,s1,s2,s3,s4,s5,s6,s7,s8⟩;go_simp;with_reducible rfl
        rotate_left;·simp only [Act.put,List.setIfInBounds_toArray,List.set_cons_zero,List.set_cons_succ,i64_w,i32_w];rfl
        refine pure_ (i:=2) (N:=some 25) (v:=?_) (a':=?_) #[true,true,true,false,false,false,false,true,false,false,false,false,false,false] rfl rfl (any_of HT_.out (by kernel_rfl)) (fun _ _ _ h=>h) (Or.inl ⟨by rfl,?_⟩) ?_ ?_
        rotate_left;·intro w';go_simp;with_reducible rfl
        rotate_left;·simp only [Act.put,List.setIfInBounds_toArray,List.set_cons_zero,List.set_cons_succ,i64_w,i32_w];rfl
        refine take_ (i:=3) (N:=some 26) (v:=?_) (a':=?_) #[true,true,true,true,false,false,false,true,false,false,false,false,false,false] rfl rfl (take_ofW HT_.out HW_.out (by kernel_rfl)) (fun _ _ _ h=>h) (Or.inl ⟨by rfl,?_⟩) hHeld ?_ ?_
        rotate_left;·rintro w' ⟨s0,s1,s2,s3,s4,s5,s6,s7,s8⟩;go_simp;with_reducible rfl
        rotate_left;·simp only [Act.put,List.setIfInBounds_toArray,List.set_cons_zero,List.set_cons_succ,i64_w,i32_w];rfl
        refine take_ (i:=8) (N:=some 31) (v:=?_) (a':=?_) #[true,true,true,true,false,false,false,true,true,false,false,false,false,false] rfl rfl (take_ofW HT_.out HW_.out (by kernel_rfl)) (fun _ _ _ h=>h) (Or.inl ⟨by rfl,?_⟩) hHeld ?_ ?_
        rotate_left;·rintro w' ⟨s0,s1,s2,s3,s4,s5,s6,s7,s8⟩;go_simp;with_reducible rfl
        rotate_left;·simp only [Act.put,List.setIfInBounds_toArray,List.set_cons_zero,List.set_cons_succ,i64_w,i32_w];rfl
        refine pure_ (i:=9) (N:=some 32) (v:=?_) (a':=?_) #[true,true,true,true,false,false,false,true,true,true,false,false,false,false] rfl rfl (any_of HT_.out (by kernel_rfl)) (fun _ _ _ h=>h) (Or.inl ⟨by rfl,?_⟩) ?_ ?_
        rotate_left;·intro w';go_simp;with_reducible rfl
        rotate_left;·simp only [Act.put,List.setIfInBounds_toArray,List.set_cons_zero,List.set_cons_succ,i64_w,i32_w];rfl
        refine take_ (i:=10) (N:=some 33) (v:=?_) (a':=?_) #[true,true,true,true,false,false,false,true,true,true,true,false,false,false] rfl rfl (take_ofW HT_.out HW_.out (by kernel_rfl)) (fun _ _ _ h=>h) (Or.inl ⟨by rfl,?_⟩) hHeld ?_ ?_
        rotate_left;·rintro w' ⟨s0,s1,s2,s3,s4,s5,s6,s7,s8⟩;go_simp;with_reducible rfl
        rotate_left;·simp only [Act.put,List.setIfInBounds_toArray,List.set_cons_zero,List.set_cons_succ,i64_w,i32_w];rfl
        refine one_ (i:=4) (N:=some 27) #[true,true,true,true,true,false,false,true,true,true,true,false,false,false] rfl rfl (one_of HT_.out (by kernel_rfl)) (by decide) (fun K hK=>?_)
        refine goes_ Tryd.func46 (by kernel_rfl) rfl #[.agg #[.int .i64 ((rd_T25 l0_2 1).f0),.int .i64 ((rd_T25 l0_2 1).f1),.slice A170_2 ((rd_T25 l0_2 1).f2).length c170_2]] (by rfl) rfl rfl (by (try simp only [List.map_toArray,List.map_cons,List.map_nil]);first | done | rfl | (simp only [List.length_drop,List.length_take];rfl)) ?_
        with_reducible refine (ih k (by omega) ((rd_T25 l0_2 1).f0) ((rd_T25 l0_2 1).f1) _ _ ((rd_T25 l0_2 1).f2) t171 _ ?side1 ?side2 A18.out).mono ?_
        (case side1=>repeat (first | exact (Kd.C_below HR170_2.out HB.out) | (with_reducible refine Kd.C_alloc ?_ _) | (with_reducible refine Kd.C_drewN ?_ _) | (with_reducible refine Kd.C_drew ?_)))
        (case side2=>exact HC170_2.out)
        rintro e w27 ⟨rfl,hb⟩
        refine ⟨_,rfl,?_⟩
        have n0_:=Aside0.mk (blk_below (g:=gb165) (o:=.cells #[.int .i64 a0_0,.int .i64 a0_1,.slice (some ad170) l0_2.length c0_2] 25 (0,0)) (by (with_reducible repeat (first | refine blk_drewN ?_ _ | refine blk_drew ?_ | refine blk_alloc ?_ _));exact BK165.out) hb)
        have n1_:=Aside0.mk (below_step (by repeat (first | (with_reducible first | exact HB.out | apply below_alloc | apply pw_below_drewN | apply below_drew1 | refine below_set ?_ GE165.out) | exact HB.out)) hb)
        clear BK165
        clear HB
        have BK165:=n0_
        have HB:=n1_
        clear n0_ n1_
        (try clear hb)
        (try clear hb2)
        (try clear hk)
        (try clear hi)
        refine hK.out _ _ ⟨(blk_cell BK165.out 0).trans rfl,(blk_cell BK165.out 1).trans rfl,(blk_cell BK165.out 2).trans rfl,((HB.out.cell (World.block_lt_of_cell? w _ hw170_0)).trans hw170_0),((HB.out.cell (World.block_lt_of_cell? w _ hw170_1)).trans hw170_1),((HB.out.cell (World.block_lt_of_cell? w _ hw170_2)).trans hw170_2),((HB.out.cell (World.block_lt_of_cell? w _ hw172_0)).trans hw172_0),((HB.out.cell (World.block_lt_of_cell? w _ hw172_1)).trans hw172_1),((HB.out.cell (World.block_lt_of_cell? w _ hw172_2)).trans hw172_2)⟩ (fun hHeld=>?_)
        clear hK K
        refine norm_ (a':=?_) ?_ ?_
        rotate_left
        ·show Act.put _ (some 27) _ = _
         simp only [Act.put,List.setIfInBounds_toArray,List.set_cons_zero,List.set_cons_succ,i64_w,i32_w]
         rfl
        refine pure_ (i:=5) (N:=some 28) (v:=?_) (a':=?_) #[true,true,true,true,true,true,false,true,true,true,true,false,false,false] rfl rfl (any_of HT_.out (by kernel_rfl)) (fun _ _ _ h=>h) (Or.inl ⟨by rfl,?_⟩) ?_ ?_
        rotate_left;·intro w';go_simp;with_reducible rfl
        rotate_left;·simp only [Act.put,List.setIfInBounds_toArray,List.set_cons_zero,List.set_cons_succ,i64_w,i32_w];rfl
        refine pure_ (i:=6) (N:=some 29) (v:=?_) (a':=?_) #[true,true,true,true,true,true,true,true,true,true,true,false,false,false] rfl rfl (any_of HT_.out (by kernel_rfl)) (fun _ _ _ h=>h) (Or.inl ⟨by rfl,?_⟩) ?_ ?_
        rotate_left;·intro w';go_simp;with_reducible rfl
        rotate_left;·simp only [Act.put,List.setIfInBounds_toArray,List.set_cons_zero,List.set_cons_succ,i64_w,i32_w];rfl
        refine one_ (i:=11) (N:=some 34) #[true,true,true,true,true,true,true,true,true,true,true,true,false,false] rfl rfl (one_of HT_.out (by kernel_rfl)) (by decide) (fun K hK=>?_)
        refine goes_ Tryd.func46 (by kernel_rfl) rfl #[.agg #[.int .i64 ((rd_T25 l0_2 0).f0),.int .i64 ((rd_T25 l0_2 0).f1),.slice A172_2 ((rd_T25 l0_2 0).f2).length c172_2]] (by rfl) rfl rfl (by (try simp only [List.map_toArray,List.map_cons,List.map_nil]);first | done | rfl | (simp only [List.length_drop,List.length_take];rfl)) ?_
        with_reducible refine (ih k (by omega) ((rd_T25 l0_2 0).f0) ((rd_T25 l0_2 0).f1) _ _ ((rd_T25 l0_2 0).f2) t173 _ ?side1 ?side2 A22.out).mono ?_
        (case side1=>repeat (first | exact (Kd.C_below HR172_2.out HB.out) | (with_reducible refine Kd.C_alloc ?_ _) | (with_reducible refine Kd.C_drewN ?_ _) | (with_reducible refine Kd.C_drew ?_)))
        (case side2=>exact HC172_2.out)
        rintro e w28 ⟨rfl,hb⟩
        refine ⟨_,rfl,?_⟩
        have n0_:=Aside0.mk (blk_below (g:=gb165) (o:=.cells #[.int .i64 a0_0,.int .i64 a0_1,.slice (some ad170) l0_2.length c0_2] 25 (0,0)) (by (with_reducible repeat (first | refine blk_drewN ?_ _ | refine blk_drew ?_ | refine blk_alloc ?_ _));exact BK165.out) hb)
        have n1_:=Aside0.mk (below_step (by repeat (first | (with_reducible first | exact HB.out | apply below_alloc | apply pw_below_drewN | apply below_drew1 | refine below_set ?_ GE165.out) | exact HB.out)) hb)
        clear BK165
        clear HB
        have BK165:=n0_
        have HB:=n1_
        clear n0_ n1_
        (try clear hb)
        (try clear hb2)
        (try clear hk)
        (try clear hi)
        refine hK.out _ _ ⟨(blk_cell BK165.out 0).trans rfl,(blk_cell BK165.out 1).trans rfl,(blk_cell BK165.out 2).trans rfl,((HB.out.cell (World.block_lt_of_cell? w _ hw170_0)).trans hw170_0),((HB.out.cell (World.block_lt_of_cell? w _ hw170_1)).trans hw170_1),((HB.out.cell (World.block_lt_of_cell? w _ hw170_2)).trans hw170_2),((HB.out.cell (World.block_lt_of_cell? w _ hw172_0)).trans hw172_0),((HB.out.cell (World.block_lt_of_cell? w _ hw172_1)).trans hw172_1),((HB.out.cell (World.block_lt_of_cell? w _ hw172_2)).trans hw172_2)⟩ (fun hHeld=>?_)
        clear hK K
        refine norm_ (a':=?_) ?_ ?_
        rotate_left
        ·show Act.put _ (some 34) _ = _
         simp only [Act.put,List.setIfInBounds_toArray,List.set_cons_zero,List.set_cons_succ,i64_w,i32_w]
         rfl
        refine pure_ (i:=12) (N:=some 35) (v:=?_) (a':=?_) #[true,true,true,true,true,true,true,true,true,true,true,true,true,false] rfl rfl (any_of HT_.out (by kernel_rfl)) (fun _ _ _ h=>h) (Or.inl ⟨by rfl,?_⟩) ?_ ?_
        rotate_left;·intro w';go_simp;with_reducible rfl
        rotate_left;·simp only [Act.put,List.setIfInBounds_toArray,List.set_cons_zero,List.set_cons_succ,i64_w,i32_w];rfl
        refine pure_ (i:=13) (N:=some 2) (v:=?_) (a':=?_) #[true,true,true,true,true,true,true,true,true,true,true,true,true,true] rfl rfl (any_of HT_.out (by kernel_rfl)) (fun _ _ _ h=>h) (Or.inl ⟨by rfl,?_⟩) ?_ ?_
        rotate_left;·intro w';go_simp;with_reducible rfl
        rotate_left;·simp only [Act.put,List.setIfInBounds_toArray,List.set_cons_zero,List.set_cons_succ,i64_w,i32_w];rfl
        refine done_ (done_of HT_.out (by kernel_rfl)) ?_
        try go_wp2
        go_ret
        exact ⟨by first | rfl | (simp [errW_none,errW_some] <;> rfl) | (simp [*,errW_none,errW_some] <;> rfl),by repeat (first | (with_reducible first | exact HB.out | apply below_alloc | apply pw_below_drewN | apply below_drew1 | refine below_set ?_ GE165.out) | exact HB.out)⟩
       ·rw [if_neg c23] at H
        exact absurd H (by simp)
      ·rw [if_neg c21] at H
       exact absurd H (by simp)
     ·rw [if_neg c20] at H
      exact absurd H (by simp)
    ·rw [if_neg c19] at H
     exact absurd H (by simp)
   ·rw [if_neg c17] at H
    exact absurd H (by simp)
  ·rw [if_neg c16] at H
   have c16b0:(a0_0 == 2) = false:=beq_eq_false_iff_ne.mpr c16
   have c16b1:(a0_0 != 2) = true:=bne_iff_ne.mpr c16
   replace H:=Option.bind_eq_some_iff.mp H
   obtain ⟨t174,A290,H⟩:=H
   replace H:(if 1 + t174.size ≤ 9223372036854775807 then (some ((⟨#[109]⟩:ByteArray) ++ t174)) else (none)) = some r:=H
   have A29:=Aside0.mk A290
   clear A290
   by_cases c30:1 + t174.size ≤ 9223372036854775807
   ·rw [if_pos c30] at H
    have c30b0:=eq_true c30
    have c30b1:decide (1 + t174.size ≤ 9223372036854775807) = true:=decide_eq_true c30
    try have c30b2:(9223372036854775807 < 1 + t174.size) = False:=eq_false (Nat.not_lt.2 c30)
    obtain rfl:=Option.some.inj H
    go_enter Tryd.func46,Tryd.ntmps46
    go_wp2_with (first | ((with_reducible refine gate_dst (N:=1) rfl ?_);refine box_event ?hg (N:=1) ?hd (cs:=#[.int .i64 a0_0,.int .i64 a0_1,.slice A0_2 l0_2.length c0_2]) (t:=25) ?hr ?_;(case hd=>rfl);(case hg=>rfl);(case hr=>first | (go_simp;done) | (go_simp;rfl));intro gb165 hg w31 hbox hb;have n0_:=Aside0.mk (below_step (by repeat (first | (with_reducible first | exact HB.out | apply below_alloc | apply pw_below_drewN | apply below_drew1) | exact HB.out)) hb);have n1_:=Aside0.mk (hbox);have n2_:=Aside0.mk ((by rw [hg];exact (below_size (by repeat (first | (with_reducible first | exact HB.out | apply below_alloc | apply pw_below_drewN | apply below_drew1) | exact HB.out))):w.heap.size ≤ gb165));have n3_:=Aside0.mk ((by rw [hg];exact (below_size (by repeat (first | (with_reducible first | exact HB.out | apply below_alloc | apply pw_below_drewN | apply below_drew1) | exact HB.out))):w.heap.size ≤ gb165));clear HB;have HB:=n0_;have BK165:=n1_;have GW165:=n2_;have GE165:=n3_;clear n0_ n1_ n2_ n3_;clear hb hbox hg;have hcz32_0:w31.cell? ⟨gb165,0,none⟩ = some (.int .i64 a0_0):=(blk_cell BK165.out 0).trans rfl;have hcz32_1:w31.cell? ⟨gb165,1,none⟩ = some (.int .i64 a0_1):=(blk_cell BK165.out 1).trans rfl;have hcz32_2:w31.cell? ⟨gb165,2,none⟩ = some (.slice A0_2 l0_2.length c0_2):=(blk_cell BK165.out 2).trans rfl;have hfz32_0:=blk_frozen BK165.out 0;have hfz32_1:=blk_frozen BK165.out 1;have hfz32_2:=blk_frozen BK165.out 2) | ((with_reducible refine gate_callee (f:=59) rfl ?_);refine goesL_ (some 38) rfl rfl Tryd.func59 (by kernel_rfl) rfl #[.int .i64 a0_1] rfl (by (try simp only [List.map_toArray,List.map_cons,List.map_nil]);first | done | rfl | (simp only [List.length_drop,List.length_take];rfl)) ?_;(with_reducible refine (strconv_Itoa_59.calls a0_1 t174 _ A29.out).mono ?_);rintro e w33 ⟨rfl,hb⟩;refine ⟨_,rfl,?_⟩;have n0_:=Aside0.mk (blk_below (g:=gb165) (o:=.cells #[.int .i64 a0_0,.int .i64 a0_1,.slice A0_2 l0_2.length c0_2] 25 (0,0)) (by (with_reducible repeat (first | refine blk_drewN ?_ _ | refine blk_drew ?_ | refine blk_alloc ?_ _));exact BK165.out) hb);have n1_:=Aside0.mk (below_step (by repeat (first | (with_reducible first | exact HB.out | apply below_alloc | apply pw_below_drewN | apply below_drew1 | refine below_set ?_ GE165.out) | exact HB.out)) hb);clear BK165;clear HB;have BK165:=n0_;have HB:=n1_;clear n0_ n1_;(try clear hb);(try clear hb2);(try clear hk);(try clear hi)))
    go_ret
    exact ⟨by first | rfl | (simp [errW_none,errW_some] <;> rfl) | (simp [*,errW_none,errW_some] <;> rfl),by repeat (first | (with_reducible first | exact HB.out | apply below_alloc | apply pw_below_drewN | apply below_drew1 | refine below_set ?_ GE165.out) | exact HB.out)⟩
   ·rw [if_neg c30] at H
    exact absurd H (by simp)
end Go.Proofs.YtbcjpdahdecehaaDoor.P
