/-
  The law WriteBack: for every input it returns true, and its arguments read behind the call as before it. No condition.
-/
import Derived.Deep.RegionHeld3
import Derived.Deep.RegionLaw
import Derived.Deep.DeepCutAuto
import Derived.Test.YtdhnfccgojgehaaDoorProg
import Derived.Lib.SmallJoins
import Derived.Test.YtdhnfccgojgehaaDoorRows
import Derived.Test.YtdhnfccgojgehaaDoorCards
import Derived.Test.YtdhnfccgojgehaaDoorTie
import Derived.SevenTiedAt
import Derived.ProofKit
import Derived.LaidMore
import Derived.Stop.Joined
import Derived.Test.YtdhnfccgojgehaaDoorMWriteBack1
import Derived.Test.YtdhnfccgojgehaaDoorMWriteBack2
import Derived.Test.YtdhnfccgojgehaaDoorMWriteBack3
import Derived.Test.YtdhnfccgojgehaaDoorMWriteBack4
import Derived.Test.YtdhnfccgojgehaaDoorMWriteBack5

set_option linter.unusedVariables false
set_option linter.unusedSimpArgs false
namespace Go.Proofs.YtdhnfccgojgehaaDoor.QP
open Go.RowKit Go.Proofs.YtdhnfccgojgehaaDoorW.PrintWords Go.Proofs.YtdhnfccgojgehaaDoorW.PrintLast Go.Proofs.YtdhnfccgojgehaaDoorW.PrintMore
attribute [local go_sem] max2_int min2_int max_two min_two max_three min_three max_four min_four   -- for this text's walks alone
set_option linter.unusedVariables false
set_option linter.unusedSimpArgs false

/-! ### passepartoutref05_Fits: function 14 -/
def passepartoutref05_Fits.f (k : Nat) (a0_0 : Int) (a0_1 : Int) (a0_2 : Int) (a0_3 : Int) (a0_4 : Int) (l0_5 : List (S24)) (a1_0 : Int) (l1_1 : List Int) (l1_2 : List (S31)) : Option (Int × Int) := (passepartoutref04_Check.f k a0_0 a0_1 a0_2 a0_3 a0_4 l0_5).bind fun t149 => (if t149 = 0 then ((passepartoutref05_fit.f k a0_0 a0_1 a0_2 a0_3 a0_4 l0_5 a1_0 l1_1 l1_2).bind fun bt150 => (some (bt150.1,bt150.2))) else (some (0,t149)))
theorem passepartoutref05_Fits.mono : ∀ a0 a1 a2 a3 a4 a5 a6 a7 a8 k,LeO (passepartoutref05_Fits.f k a0 a1 a2 a3 a4 a5 a6 a7 a8) (passepartoutref05_Fits.f (k + 1) a0 a1 a2 a3 a4 a5 a6 a7 a8) := by
 intro a0 a1 a2 a3 a4 a5 a6 a7 a8 k
 unfold passepartoutref05_Fits.f
 repeat' first
   | (with_reducible exact passepartoutref04_Check.mono _ _ _ _ _ _ _)
   | (with_reducible exact passepartoutref05_fit.mono _ _ _ _ _ _ _ _ _ _)
   | (with_reducible exact LeO.refl _)
   | (with_reducible exact LeO.none _)
   | (with_reducible refine LeO.ite ?_ ?_)
   | (with_reducible refine LeO.bind ?_ (fun _ => ?_))
   | exact passepartoutref04_Check.mono _ _ _ _ _ _ _
   | exact passepartoutref05_fit.mono _ _ _ _ _ _ _ _ _ _
   | exact LeO.none _
   | refine LeO.ite ?_ ?_
   | refine LeO.bind ?_ (fun _ => ?_)
set_option maxHeartbeats 8000000 in
set_option maxRecDepth 100000 in
theorem passepartoutref05_Fits.calls (k : Nat) (a0_0 : Int) (a0_1 : Int) (a0_2 : Int) (a0_3 : Int) (a0_4 : Int) (A0_5 : Option Addr) (c0_5 : Nat) (l0_5 : List (S24)) (a1_0 : Int) (A1_1 : Option Addr) (c1_1 : Nat) (l1_1 : List Int) (A1_2 : Option Addr) (c1_2 : Nat) (l1_2 : List (S31)) (r1 : Int) (r2 : Int) (w : World) (hr0_5 : Kd.C k24 w A0_5 l0_5.length l0_5) (hc0_5 : l0_5.length ≤ c0_5) (hr1_1 : Kd.C (Kd.int .u8) w A1_1 l1_1.length l1_1) (hc1_1 : l1_1.length ≤ c1_1) (hr1_2 : Kd.C k31 w A1_2 l1_2.length l1_2) (hc1_2 : l1_2.length ≤ c1_2) (h : passepartoutref05_Fits.f k a0_0 a0_1 a0_2 a0_3 a0_4 l0_5 a1_0 l1_1 l1_2 = some (r1,r2)) :
  Calls Tryd.prog 14 #[.agg #[.int .i64 a0_0,.int .i64 a0_1,.int .i64 a0_2,.int .i64 a0_3,.int .i64 a0_4,.slice A0_5 l0_5.length c0_5],.agg #[.int .u64 a1_0,.slice A1_1 l1_1.length c1_1,.slice A1_2 l1_2.length c1_2]] w fun e w' => e = .returned (.tuple #[.int .i64 r1,.int .i64 r2]) ∧ Below w.heap.size w w' := by
 have hu24 := Tryd.underlying24
 have hu31 := Tryd.underlying31
 have HR0_5 := Aside0.mk hr0_5
 have HC0_5 := Aside0.mk hc0_5
 clear hr0_5 hc0_5
 have HR1_1 := Aside0.mk hr1_1
 have HC1_1 := Aside0.mk hc1_1
 clear hr1_1 hc1_1
 have HR1_2 := Aside0.mk hr1_2
 have HC1_2 := Aside0.mk hc1_2
 clear hr1_2 hc1_2
 have HB := Aside0.mk (Below.refl w.heap.size w)
 have H : ((passepartoutref04_Check.f k a0_0 a0_1 a0_2 a0_3 a0_4 l0_5).bind fun t149 => (if t149 = 0 then ((passepartoutref05_fit.f k a0_0 a0_1 a0_2 a0_3 a0_4 l0_5 a1_0 l1_1 l1_2).bind fun bt150 => (some (bt150.1,bt150.2))) else (some (0,t149)))) = some (r1,r2) := h
 clear h
 replace H := Option.bind_eq_some_iff.mp H
 obtain ⟨t149,A30,H⟩ := H
 replace H : (if t149 = 0 then ((passepartoutref05_fit.f k a0_0 a0_1 a0_2 a0_3 a0_4 l0_5 a1_0 l1_1 l1_2).bind fun bt150 => (some (bt150.1,bt150.2))) else (some (0,t149))) = some (r1,r2) := H
 have A3 := Aside0.mk A30
 clear A30
 by_cases c4 : t149 = 0
 ·rw [if_pos c4] at H
  have c4b0 : (t149 == 0) = true := beq_iff_eq.mpr c4
  have c4b1 : (t149 != 0) = false := bne_eq_false_iff_eq.mpr c4
  clear c4
  replace H := Option.bind_eq_some_iff.mp H
  obtain ⟨⟨t150,t151⟩,A50,H⟩ := H
  replace H : (some (t150,t151)) = some (r1,r2) := H
  have A5 := Aside0.mk A50
  clear A50
  simp only [Option.some.injEq,Prod.mk.injEq] at H
  obtain ⟨rfl,rfl⟩ := H
  go_enter Tryd.func14,Tryd.ntmps14
  go_wp2_with (first | ((with_reducible refine gate_dst (N := 2) rfl ?_);refine box_event ?hg (N := 2) ?hd (cs := #[.int .i64 a0_0,.int .i64 a0_1,.int .i64 a0_2,.int .i64 a0_3,.int .i64 a0_4,.slice A0_5 l0_5.length c0_5]) (t := 24) ?hr ?_;(case hd => rfl);(case hg => rfl);(case hr => first | (go_simp;done) | (go_simp;rfl));intro gb147 hg w6 hbox hb;have n0_ := Aside0.mk (below_step (by repeat (first | (with_reducible first | exact HB.out | apply below_alloc | apply pw_below_drewN | apply below_drew1) | exact HB.out)) hb);have n1_ := Aside0.mk (hbox);have n2_ := Aside0.mk ((by rw [hg];exact (below_size (by repeat (first | (with_reducible first | exact HB.out | apply below_alloc | apply pw_below_drewN | apply below_drew1) | exact HB.out))) : w.heap.size ≤ gb147));have n3_ := Aside0.mk ((by rw [hg];exact (below_size (by repeat (first | (with_reducible first | exact HB.out | apply below_alloc | apply pw_below_drewN | apply below_drew1) | exact HB.out))) : w.heap.size ≤ gb147));clear HB;have HB := n0_;have BK147 := n1_;have GW147 := n2_;have GE147 := n3_;clear n0_ n1_ n2_ n3_;clear hb hbox hg) | ((with_reducible refine gate_dst (N := 3) rfl ?_);refine box_event ?hg (N := 3) ?hd (cs := #[.int .u64 a1_0,.slice A1_1 l1_1.length c1_1,.slice A1_2 l1_2.length c1_2]) (t := 31) ?hr ?_;(case hd => rfl);(case hg => rfl);(case hr => first | (go_simp;done) | (go_simp;rfl));intro gb148 hg w7 hbox hb;have n0_ := Aside0.mk (blk_below (g := gb147) (o := .cells #[.int .i64 a0_0,.int .i64 a0_1,.int .i64 a0_2,.int .i64 a0_3,.int .i64 a0_4,.slice A0_5 l0_5.length c0_5] 24 (0,0)) (by (with_reducible repeat (first | refine blk_drewN ?_ _ | refine blk_drew ?_ | refine blk_alloc ?_ _));exact BK147.out) hb);have n1_ := Aside0.mk (below_step (by repeat (first | (with_reducible first | exact HB.out | apply below_alloc | apply pw_below_drewN | apply below_drew1 | refine below_set ?_ GE147.out) | exact HB.out)) hb);have n2_ := Aside0.mk (hbox);have n3_ := Aside0.mk ((by rw [hg];exact (below_size (by repeat (first | (with_reducible first | exact HB.out | apply below_alloc | apply pw_below_drewN | apply below_drew1 | refine below_set ?_ GE147.out) | exact HB.out))) : w.heap.size ≤ gb148));have n4_ := Aside0.mk ((by rw [hg];exact (below_size (by repeat (first | (with_reducible first | exact HB.out | apply below_alloc | apply pw_below_drewN | apply below_drew1 | refine below_set ?_ GE147.out) | exact HB.out))) : w.heap.size ≤ gb148));have n5_ := Aside0.mk ((by rw [hg];exact Nat.ne_of_lt (blk_lt (g := gb147) (o := .cells #[.int .i64 a0_0,.int .i64 a0_1,.int .i64 a0_2,.int .i64 a0_3,.int .i64 a0_4,.slice A0_5 l0_5.length c0_5] 24 (0,0)) (by (with_reducible repeat (first | refine blk_drewN ?_ _ | refine blk_drew ?_ | refine blk_alloc ?_ _));exact BK147.out)) : gb147 ≠ gb148));have n6_ := Aside0.mk ((by rw [hg];exact Nat.ne_of_gt (blk_lt (g := gb147) (o := .cells #[.int .i64 a0_0,.int .i64 a0_1,.int .i64 a0_2,.int .i64 a0_3,.int .i64 a0_4,.slice A0_5 l0_5.length c0_5] 24 (0,0)) (by (with_reducible repeat (first | refine blk_drewN ?_ _ | refine blk_drew ?_ | refine blk_alloc ?_ _));exact BK147.out)) : gb148 ≠ gb147));clear BK147;clear HB;have BK147 := n0_;have HB := n1_;have BK148 := n2_;have GW148 := n3_;have GE148 := n4_;have NB147_148 := n5_;have NB148_147 := n6_;clear n0_ n1_ n2_ n3_ n4_ n5_ n6_;clear hb hbox hg;have hnb8 := NB147_148.out;have hnc8 := NB148_147.out;have hcz9_0 : w7.cell? ⟨gb147,0,none⟩ = some (.int .i64 a0_0) := (blk_cell BK147.out 0).trans rfl;have hcz9_1 : w7.cell? ⟨gb147,1,none⟩ = some (.int .i64 a0_1) := (blk_cell BK147.out 1).trans rfl;have hcz9_2 : w7.cell? ⟨gb147,2,none⟩ = some (.int .i64 a0_2) := (blk_cell BK147.out 2).trans rfl;have hcz9_3 : w7.cell? ⟨gb147,3,none⟩ = some (.int .i64 a0_3) := (blk_cell BK147.out 3).trans rfl;have hcz9_4 : w7.cell? ⟨gb147,4,none⟩ = some (.int .i64 a0_4) := (blk_cell BK147.out 4).trans rfl;have hcz9_5 : w7.cell? ⟨gb147,5,none⟩ = some (.slice A0_5 l0_5.length c0_5) := (blk_cell BK147.out 5).trans rfl;have hfz9_0 := blk_frozen BK147.out 0;have hfz9_1 := blk_frozen BK147.out 1;have hfz9_2 := blk_frozen BK147.out 2;have hfz9_3 := blk_frozen BK147.out 3;have hfz9_4 := blk_frozen BK147.out 4;have hfz9_5 := blk_frozen BK147.out 5) | ((with_reducible refine gate_callee (f := 16) rfl ?_);refine goesL_ (some 8) rfl rfl Tryd.func16 (by kernel_rfl) rfl #[.agg #[.int .i64 a0_0,.int .i64 a0_1,.int .i64 a0_2,.int .i64 a0_3,.int .i64 a0_4,.slice A0_5 l0_5.length c0_5]] rfl (by (try simp only [List.map_toArray,List.map_cons,List.map_nil]);first | done | rfl | (simp only [List.length_drop,List.length_take];rfl)) ?_;(with_reducible refine (passepartoutref04_Check.calls k a0_0 a0_1 a0_2 a0_3 a0_4 _ _ l0_5 t149 _ ?side1 ?side2 A3.out).mono ?_);(case side1 => repeat (first | exact (Kd.C_below HR0_5.out HB.out) | (with_reducible refine Kd.C_alloc ?_ _) | (with_reducible refine Kd.C_drewN ?_ _) | (with_reducible refine Kd.C_drew ?_)));(case side2 => exact HC0_5.out);rintro e w10 ⟨rfl,hb⟩;refine ⟨_,rfl,?_⟩;have n0_ := Aside0.mk (blk_below (g := gb147) (o := .cells #[.int .i64 a0_0,.int .i64 a0_1,.int .i64 a0_2,.int .i64 a0_3,.int .i64 a0_4,.slice A0_5 l0_5.length c0_5] 24 (0,0)) (by (with_reducible repeat (first | refine blk_drewN ?_ _ | refine blk_drew ?_ | refine blk_alloc ?_ _));exact BK147.out) hb);have n1_ := Aside0.mk (blk_below (g := gb148) (o := .cells #[.int .u64 a1_0,.slice A1_1 l1_1.length c1_1,.slice A1_2 l1_2.length c1_2] 31 (0,0)) (by (with_reducible repeat (first | refine blk_drewN ?_ _ | refine blk_drew ?_ | refine blk_alloc ?_ _));exact BK148.out) hb);have n2_ := Aside0.mk (below_step (by repeat (first | (with_reducible first | exact HB.out | apply below_alloc | apply pw_below_drewN | apply below_drew1 | refine below_set ?_ GE147.out | refine below_set ?_ GE148.out) | exact HB.out)) hb);clear BK147;clear BK148;clear HB;have BK147 := n0_;have BK148 := n1_;have HB := n2_;clear n0_ n1_ n2_;(try clear hb);(try clear hb2);(try clear hk);(try clear hi);have hcz11_0 : w10.cell? ⟨gb147,0,none⟩ = some (.int .i64 a0_0) := (blk_cell BK147.out 0).trans rfl;have hcz11_1 : w10.cell? ⟨gb147,1,none⟩ = some (.int .i64 a0_1) := (blk_cell BK147.out 1).trans rfl;have hcz11_2 : w10.cell? ⟨gb147,2,none⟩ = some (.int .i64 a0_2) := (blk_cell BK147.out 2).trans rfl;have hcz11_3 : w10.cell? ⟨gb147,3,none⟩ = some (.int .i64 a0_3) := (blk_cell BK147.out 3).trans rfl;have hcz11_4 : w10.cell? ⟨gb147,4,none⟩ = some (.int .i64 a0_4) := (blk_cell BK147.out 4).trans rfl;have hcz11_5 : w10.cell? ⟨gb147,5,none⟩ = some (.slice A0_5 l0_5.length c0_5) := (blk_cell BK147.out 5).trans rfl;have hfz11_0 := blk_frozen BK147.out 0;have hfz11_1 := blk_frozen BK147.out 1;have hfz11_2 := blk_frozen BK147.out 2;have hfz11_3 := blk_frozen BK147.out 3;have hfz11_4 := blk_frozen BK147.out 4;have hfz11_5 := blk_frozen BK147.out 5;have hcz12_0 : w10.cell? ⟨gb148,0,none⟩ = some (.int .u64 a1_0) := (blk_cell BK148.out 0).trans rfl;have hcz12_1 : w10.cell? ⟨gb148,1,none⟩ = some (.slice A1_1 l1_1.length c1_1) := (blk_cell BK148.out 1).trans rfl;have hcz12_2 : w10.cell? ⟨gb148,2,none⟩ = some (.slice A1_2 l1_2.length c1_2) := (blk_cell BK148.out 2).trans rfl;have hfz12_0 := blk_frozen BK148.out 0;have hfz12_1 := blk_frozen BK148.out 1;have hfz12_2 := blk_frozen BK148.out 2) | ((with_reducible refine gate_callee (f := 28) rfl ?_);refine goesL_ (some 14) rfl rfl Tryd.func28 (by kernel_rfl) rfl #[.agg #[.int .i64 a0_0,.int .i64 a0_1,.int .i64 a0_2,.int .i64 a0_3,.int .i64 a0_4,.slice A0_5 l0_5.length c0_5],.agg #[.int .u64 a1_0,.slice A1_1 l1_1.length c1_1,.slice A1_2 l1_2.length c1_2]] rfl (by (try simp only [List.map_toArray,List.map_cons,List.map_nil]);first | done | rfl | (simp only [List.length_drop,List.length_take];rfl)) ?_;(with_reducible refine (passepartoutref05_fit.calls k a0_0 a0_1 a0_2 a0_3 a0_4 _ _ l0_5 a1_0 _ _ l1_1 _ _ l1_2 t150 t151 _ ?side1 ?side2 ?side3 ?side4 ?side5 ?side6 A5.out).mono ?_);(case side1 => repeat (first | exact (Kd.C_below HR0_5.out HB.out) | (with_reducible refine Kd.C_alloc ?_ _) | (with_reducible refine Kd.C_drewN ?_ _) | (with_reducible refine Kd.C_drew ?_)));(case side2 => exact HC0_5.out);(case side3 => repeat (first | exact (Kd.C_below HR1_1.out HB.out) | (with_reducible refine Kd.C_alloc ?_ _) | (with_reducible refine Kd.C_drewN ?_ _) | (with_reducible refine Kd.C_drew ?_)));(case side4 => exact HC1_1.out);(case side5 => repeat (first | exact (Kd.C_below HR1_2.out HB.out) | (with_reducible refine Kd.C_alloc ?_ _) | (with_reducible refine Kd.C_drewN ?_ _) | (with_reducible refine Kd.C_drew ?_)));(case side6 => exact HC1_2.out);rintro e w13 ⟨rfl,hb⟩;refine ⟨_,rfl,?_⟩;have n0_ := Aside0.mk (blk_below (g := gb147) (o := .cells #[.int .i64 a0_0,.int .i64 a0_1,.int .i64 a0_2,.int .i64 a0_3,.int .i64 a0_4,.slice A0_5 l0_5.length c0_5] 24 (0,0)) (by (with_reducible repeat (first | refine blk_drewN ?_ _ | refine blk_drew ?_ | refine blk_alloc ?_ _));exact BK147.out) hb);have n1_ := Aside0.mk (blk_below (g := gb148) (o := .cells #[.int .u64 a1_0,.slice A1_1 l1_1.length c1_1,.slice A1_2 l1_2.length c1_2] 31 (0,0)) (by (with_reducible repeat (first | refine blk_drewN ?_ _ | refine blk_drew ?_ | refine blk_alloc ?_ _));exact BK148.out) hb);have n2_ := Aside0.mk (below_step (by repeat (first | (with_reducible first | exact HB.out | apply below_alloc | apply pw_below_drewN | apply below_drew1 | refine below_set ?_ GE147.out | refine below_set ?_ GE148.out) | exact HB.out)) hb);clear BK147;clear BK148;clear HB;have BK147 := n0_;have BK148 := n1_;have HB := n2_;clear n0_ n1_ n2_;(try clear hb);(try clear hb2);(try clear hk);(try clear hi)))
  go_ret2
  exact ⟨by first | rfl | (simp [errW_none,errW_some] <;> rfl) | (simp [*,errW_none,errW_some] <;> rfl),by repeat (first | (with_reducible first | exact HB.out | apply below_alloc | apply pw_below_drewN | apply below_drew1 | refine below_set ?_ GE147.out | refine below_set ?_ GE148.out) | exact HB.out)⟩
 ·rw [if_neg c4] at H
  have c4b0 : (t149 == 0) = false := beq_eq_false_iff_ne.mpr c4
  have c4b1 : (t149 != 0) = true := bne_iff_ne.mpr c4
  simp only [Option.some.injEq,Prod.mk.injEq] at H
  obtain ⟨rfl,rfl⟩ := H
  go_enter Tryd.func14,Tryd.ntmps14
  go_wp2_with (first | ((with_reducible refine gate_dst (N := 2) rfl ?_);refine box_event ?hg (N := 2) ?hd (cs := #[.int .i64 a0_0,.int .i64 a0_1,.int .i64 a0_2,.int .i64 a0_3,.int .i64 a0_4,.slice A0_5 l0_5.length c0_5]) (t := 24) ?hr ?_;(case hd => rfl);(case hg => rfl);(case hr => first | (go_simp;done) | (go_simp;rfl));intro gb147 hg w14 hbox hb;have n0_ := Aside0.mk (below_step (by repeat (first | (with_reducible first | exact HB.out | apply below_alloc | apply pw_below_drewN | apply below_drew1) | exact HB.out)) hb);have n1_ := Aside0.mk (hbox);have n2_ := Aside0.mk ((by rw [hg];exact (below_size (by repeat (first | (with_reducible first | exact HB.out | apply below_alloc | apply pw_below_drewN | apply below_drew1) | exact HB.out))) : w.heap.size ≤ gb147));have n3_ := Aside0.mk ((by rw [hg];exact (below_size (by repeat (first | (with_reducible first | exact HB.out | apply below_alloc | apply pw_below_drewN | apply below_drew1) | exact HB.out))) : w.heap.size ≤ gb147));clear HB;have HB := n0_;have BK147 := n1_;have GW147 := n2_;have GE147 := n3_;clear n0_ n1_ n2_ n3_;clear hb hbox hg) | ((with_reducible refine gate_dst (N := 3) rfl ?_);refine box_event ?hg (N := 3) ?hd (cs := #[.int .u64 a1_0,.slice A1_1 l1_1.length c1_1,.slice A1_2 l1_2.length c1_2]) (t := 31) ?hr ?_;(case hd => rfl);(case hg => rfl);(case hr => first | (go_simp;done) | (go_simp;rfl));intro gb148 hg w15 hbox hb;have n0_ := Aside0.mk (blk_below (g := gb147) (o := .cells #[.int .i64 a0_0,.int .i64 a0_1,.int .i64 a0_2,.int .i64 a0_3,.int .i64 a0_4,.slice A0_5 l0_5.length c0_5] 24 (0,0)) (by (with_reducible repeat (first | refine blk_drewN ?_ _ | refine blk_drew ?_ | refine blk_alloc ?_ _));exact BK147.out) hb);have n1_ := Aside0.mk (below_step (by repeat (first | (with_reducible first | exact HB.out | apply below_alloc | apply pw_below_drewN | apply below_drew1 | refine below_set ?_ GE147.out) | exact HB.out)) hb);have n2_ := Aside0.mk (hbox);have n3_ := Aside0.mk ((by rw [hg];exact (below_size (by repeat (first | (with_reducible first | exact HB.out | apply below_alloc | apply pw_below_drewN | apply below_drew1 | refine below_set ?_ GE147.out) | exact HB.out))) : w.heap.size ≤ gb148));have n4_ := Aside0.mk ((by rw [hg];exact (below_size (by repeat (first | (with_reducible first | exact HB.out | apply below_alloc | apply pw_below_drewN | apply below_drew1 | refine below_set ?_ GE147.out) | exact HB.out))) : w.heap.size ≤ gb148));have n5_ := Aside0.mk ((by rw [hg];exact Nat.ne_of_lt (blk_lt (g := gb147) (o := .cells #[.int .i64 a0_0,.int .i64 a0_1,.int .i64 a0_2,.int .i64 a0_3,.int .i64 a0_4,.slice A0_5 l0_5.length c0_5] 24 (0,0)) (by (with_reducible repeat (first | refine blk_drewN ?_ _ | refine blk_drew ?_ | refine blk_alloc ?_ _));exact BK147.out)) : gb147 ≠ gb148));have n6_ := Aside0.mk ((by rw [hg];exact Nat.ne_of_gt (blk_lt (g := gb147) (o := .cells #[.int .i64 a0_0,.int .i64 a0_1,.int .i64 a0_2,.int .i64 a0_3,.int .i64 a0_4,.slice A0_5 l0_5.length c0_5] 24 (0,0)) (by (with_reducible repeat (first | refine blk_drewN ?_ _ | refine blk_drew ?_ | refine blk_alloc ?_ _));exact BK147.out)) : gb148 ≠ gb147));clear BK147;clear HB;have BK147 := n0_;have HB := n1_;have BK148 := n2_;have GW148 := n3_;have GE148 := n4_;have NB147_148 := n5_;have NB148_147 := n6_;clear n0_ n1_ n2_ n3_ n4_ n5_ n6_;clear hb hbox hg;have hnb16 := NB147_148.out;have hnc16 := NB148_147.out;have hcz17_0 : w15.cell? ⟨gb147,0,none⟩ = some (.int .i64 a0_0) := (blk_cell BK147.out 0).trans rfl;have hcz17_1 : w15.cell? ⟨gb147,1,none⟩ = some (.int .i64 a0_1) := (blk_cell BK147.out 1).trans rfl;have hcz17_2 : w15.cell? ⟨gb147,2,none⟩ = some (.int .i64 a0_2) := (blk_cell BK147.out 2).trans rfl;have hcz17_3 : w15.cell? ⟨gb147,3,none⟩ = some (.int .i64 a0_3) := (blk_cell BK147.out 3).trans rfl;have hcz17_4 : w15.cell? ⟨gb147,4,none⟩ = some (.int .i64 a0_4) := (blk_cell BK147.out 4).trans rfl;have hcz17_5 : w15.cell? ⟨gb147,5,none⟩ = some (.slice A0_5 l0_5.length c0_5) := (blk_cell BK147.out 5).trans rfl;have hfz17_0 := blk_frozen BK147.out 0;have hfz17_1 := blk_frozen BK147.out 1;have hfz17_2 := blk_frozen BK147.out 2;have hfz17_3 := blk_frozen BK147.out 3;have hfz17_4 := blk_frozen BK147.out 4;have hfz17_5 := blk_frozen BK147.out 5) | ((with_reducible refine gate_callee (f := 16) rfl ?_);refine goesL_ (some 8) rfl rfl Tryd.func16 (by kernel_rfl) rfl #[.agg #[.int .i64 a0_0,.int .i64 a0_1,.int .i64 a0_2,.int .i64 a0_3,.int .i64 a0_4,.slice A0_5 l0_5.length c0_5]] rfl (by (try simp only [List.map_toArray,List.map_cons,List.map_nil]);first | done | rfl | (simp only [List.length_drop,List.length_take];rfl)) ?_;(with_reducible refine (passepartoutref04_Check.calls k a0_0 a0_1 a0_2 a0_3 a0_4 _ _ l0_5 t149 _ ?side1 ?side2 A3.out).mono ?_);(case side1 => repeat (first | exact (Kd.C_below HR0_5.out HB.out) | (with_reducible refine Kd.C_alloc ?_ _) | (with_reducible refine Kd.C_drewN ?_ _) | (with_reducible refine Kd.C_drew ?_)));(case side2 => exact HC0_5.out);rintro e w18 ⟨rfl,hb⟩;refine ⟨_,rfl,?_⟩;have n0_ := Aside0.mk (blk_below (g := gb147) (o := .cells #[.int .i64 a0_0,.int .i64 a0_1,.int .i64 a0_2,.int .i64 a0_3,.int .i64 a0_4,.slice A0_5 l0_5.length c0_5] 24 (0,0)) (by (with_reducible repeat (first | refine blk_drewN ?_ _ | refine blk_drew ?_ | refine blk_alloc ?_ _));exact BK147.out) hb);have n1_ := Aside0.mk (blk_below (g := gb148) (o := .cells #[.int .u64 a1_0,.slice A1_1 l1_1.length c1_1,.slice A1_2 l1_2.length c1_2] 31 (0,0)) (by (with_reducible repeat (first | refine blk_drewN ?_ _ | refine blk_drew ?_ | refine blk_alloc ?_ _));exact BK148.out) hb);have n2_ := Aside0.mk (below_step (by repeat (first | (with_reducible first | exact HB.out | apply below_alloc | apply pw_below_drewN | apply below_drew1 | refine below_set ?_ GE147.out | refine below_set ?_ GE148.out) | exact HB.out)) hb);clear BK147;clear BK148;clear HB;have BK147 := n0_;have BK148 := n1_;have HB := n2_;clear n0_ n1_ n2_;(try clear hb);(try clear hb2);(try clear hk);(try clear hi)))
  go_ret2
  exact ⟨by first | rfl | (simp [errW_none,errW_some] <;> rfl) | (simp [*,errW_none,errW_some] <;> rfl),by repeat (first | (with_reducible first | exact HB.out | apply below_alloc | apply pw_below_drewN | apply below_drew1 | refine below_set ?_ GE147.out | refine below_set ?_ GE148.out) | exact HB.out)⟩

end Go.Proofs.YtdhnfccgojgehaaDoor.QP

namespace Go.Proofs.YtdhnfccgojgehaaDoor
open Go.RowKit YtdhnfccgojgehaaDoorW.PrintWords YtdhnfccgojgehaaDoorW.PrintMore

theorem between_f (n lo hi st : Int) (h : st ≠ 0) : QP.passepartoutref05_between.f n lo hi st = some (decide (mayR n lo hi st = 0)) := by
 unfold QP.passepartoutref05_between.f mayR
 by_cases h1 : n < lo
 ·rw [if_neg (by omega),if_pos h1]
  rfl
 ·rw [if_pos (by omega),if_neg h1]
  by_cases h2 : hi < n
  ·rw [if_neg (by omega),if_pos h2]
   rfl
  ·rw [if_pos (by omega),if_neg h2,if_neg h]
   by_cases h3 : Int.tmod n st = 0
   ·rw [if_pos h3,h3]
    rfl
   ·rw [if_neg h3]
    simp [h3]
theorem power_ev (s : Nat) (hs : s < 8) : Ev (fun k => QP.passepartoutref05_power.f k (s : Int)) ((2 : Int) ^ (8 * s)) := by
 simp only [QP.passepartoutref05_power.f]
 have key : ∀ (d i : Nat),s - i = d → i ≤ s → Ev (fun k => QP.passepartoutref05_power.l0 k (s : Int) ((2 : Int) ^ (8 * i)) (i : Int)) ((2 : Int) ^ (8 * s)) := by
  intro d
  induction d with
  | zero =>
   intro i hd hi
   obtain rfl : i = s := by omega
   apply Ev.step
   ·intro k
    simp only [QP.passepartoutref05_power.l0]
    rfl
   exact Ev.in_ (by omega) (Ev.now _)
  | succ d ihd =>
   intro i hd hi
   apply Ev.step
   ·intro k
    simp only [QP.passepartoutref05_power.l0]
    rfl
   refine Ev.ip (by omega) ?_
   have h7 : i = 0 ∨ i = 1 ∨ i = 2 ∨ i = 3 ∨ i = 4 ∨ i = 5 ∨ i = 6 := by omega
   have e1 : IntKind.u64.wrap ((2 : Int) ^ (8 * i) * 256) = (2 : Int) ^ (8 * (i + 1)) := by
    rcases h7 with rfl | rfl | rfl | rfl | rfl | rfl | rfl <;> rfl
   rw [e1,w64 (by omega) (by omega),show (i : Int) + 1 = ((i + 1 : Nat) : Int) by omega]
   exact ihd (i + 1) (by omega) (by omega)
 exact key s 0 (by omega) (by omega)
/-- The document's answer: no size where there is an error. -/
def fit5 (f : Fm) (x : Vt) : Int × Int := if (fitR f x).2 = 0 then fitR f x else (0,(fitR f x).2)
theorem fit5_eq {f : Fm} {x : Vt} {a b : Int} (h : fitR f x = (a,b)) : fit5 f x = if b = 0 then (a,0) else (0,b) := by
 unfold fit5
 rw [h]
 by_cases hb : b = 0
 ·rw [if_pos hb,if_pos hb,hb]
 ·rw [if_neg hb,if_neg hb]
theorem mayR_vals (n lo hi st : Int) : mayR n lo hi st = 0 ∨ mayR n lo hi st = 5 := by
 unfold mayR
 split
 ·exact .inr rfl
 ·split
  ·exact .inr rfl
  ·split
   ·exact .inl rfl
   ·exact .inr rfl
theorem fit5_ev (x : Vt) : ∀ f : Fm,wfF f = true → checkR f = 0 → wfV x = true → Ev (fun k => QP.passepartoutref05_fit.f k f.a.k f.a.s f.a.lo f.a.hi f.a.st (f.l.map ofF) x.a.n (bI x.a.b) (x.l.map ofV)) (fit5 f x) := by
 induction x using RT.induct with
 | h a l ih =>
 intro f hwf hck hwx
 obtain ⟨h,P⟩ := f
 obtain ⟨hok,hPl,hPw⟩ := (wfF_mk _ _).1 hwf
 obtain ⟨hn,hbl,hll,hlw⟩ := (wfV_mk _ _).1 hwx
 obtain ⟨hown,hone,h32,hch⟩ := check_ok hck
 obtain ⟨A,B,hAB⟩ : ∃ A B,fitR (.mk h P) (.mk a l) = (A,B) := ⟨_,_,rfl⟩
 rw [fit5_eq hAB]
 rw [fitR_mk] at hAB
 simp only [RT.a,RT.l]
 -- behind the fields that are filled
 have hj1 : ∀ bb : Bool,bb = decide (aloneB h.k a.n a.b.length l.length = false) → Ev (fun k => QP.passepartoutref05_fit.j1 k bb h.k h.s h.lo h.hi h.st (P.map ofF) a.n (bI a.b) (l.map ofV)) (if B = 0 then (A,0) else (0,B)) := by
  intro bb hbb
  apply Ev.step
  ·intro k
   simp only [QP.passepartoutref05_fit.j1,bI_len,List.length_map]
   rfl
  by_cases hal : aloneB h.k a.n a.b.length l.length = false
  ·rw [if_pos hal] at hAB
   injection hAB with e1 e2
   subst e1 e2
   rw [decide_eq_true hal] at hbb
   exact Ev.ip hbb (Ev.now _)
  rw [if_neg hal] at hAB
  rw [decide_eq_false hal] at hbb
  refine Ev.in_ (by simp [hbb]) ?_
  by_cases k0 : h.k = 0
  ·rw [if_pos k0] at hAB
   refine Ev.ip k0 ?_
   have hs := hown.k0 k0
   by_cases hs8 : h.s < 8
   ·refine Ev.ip hs8 ?_
    obtain ⟨s,hse⟩ : ∃ s : Nat,h.s = s := ⟨h.s.toNat,by omega⟩
    have hst : h.s.toNat = s := by omega
    rw [hst] at hAB
    rw [hse]
    refine Ev.bind (power_ev s (by omega)) ?_
    by_cases hx : (2 : Int) ^ (8 * s) ≤ a.n
    ·rw [if_pos ⟨hs8,hx⟩] at hAB
     injection hAB with e1 e2
     subst e1 e2
     exact Ev.ip hx (Ev.now _)
    ·rw [if_neg (fun hh => hx hh.2)] at hAB
     injection hAB with e1 e2
     subst e1 e2
     rw [hse]
     exact Ev.in_ hx (Ev.now _)
   ·rw [if_neg (fun hh => hs8 hh.1)] at hAB
    injection hAB with e1 e2
    subst e1 e2
    exact Ev.in_ hs8 (Ev.now _)
  rw [if_neg k0] at hAB
  refine Ev.in_ k0 ?_
  by_cases k1 : h.k = 1
  ·rw [if_pos k1] at hAB
   injection hAB with e1 e2
   subst e1 e2
   have hs := hown.k12 (.inl k1)
   refine Ev.ip k1 (Ev.cb (between_f _ _ _ _ (by omega)) ?_)
   by_cases hm : mayR a.b.length h.lo h.hi h.st = 0
   ·rw [decide_eq_true hm,if_pos hm]
    exact Ev.ip rfl (Ev.now _)
   ·rw [decide_eq_false hm,if_neg hm]
    have := mayR_vals a.b.length h.lo h.hi h.st
    rw [show mayR a.b.length h.lo h.hi h.st = 5 by omega]
    exact Ev.in_ (by simp) (Ev.now _)
  rw [if_neg k1] at hAB
  refine Ev.in_ k1 ?_
  by_cases k4 : h.k = 4
  ·rw [if_pos k4] at hAB
   injection hAB with e1 e2
   subst e1 e2
   refine Ev.ip k4 (Ev.cb (between_f _ _ _ _ (by omega)) ?_)
   by_cases hm : mayR a.b.length h.lo h.hi 1 = 0
   ·rw [decide_eq_true hm,if_pos hm]
    exact Ev.ip rfl (Ev.now _)
   ·rw [decide_eq_false hm,if_neg hm]
    have := mayR_vals a.b.length h.lo h.hi 1
    rw [show mayR a.b.length h.lo h.hi 1 = 5 by omega]
    exact Ev.in_ (by simp) (Ev.now _)
  rw [if_neg k4] at hAB
  refine Ev.in_ k4 ?_
  by_cases k5 : h.k = 5
  ·rw [if_pos k5] at hAB
   injection hAB with e1 e2
   subst e1 e2
   refine Ev.ip k5 ?_
   by_cases hm : (a.b.length : Int) = h.lo
   ·have e3 : mayR a.b.length h.lo h.lo 1 = 0 := by unfold mayR;rw [if_neg (by omega),if_neg (by omega),if_pos (by simp)]
    rw [e3,if_pos rfl]
    exact Ev.ip hm (Ev.now _)
   ·have e3 : mayR a.b.length h.lo h.lo 1 = 5 := by unfold mayR;split;rfl;rw [if_pos (by omega)]
    rw [e3]
    exact Ev.in_ hm (Ev.now _)
  rw [if_neg k5] at hAB
  refine Ev.in_ k5 ?_
  have hk23 : h.k = 2 ∨ h.k = 3 := by have := hown.k;omega
  have hPc : ∀ y ∈ P,checkR y = 0 := (hch hk23).1
  have key : (h.k = 3 → l.length = P.length) → ∀ (d j : Nat) (q : Int),l.length - j = d → j ≤ l.length → fitL (.mk h P) q j (l.drop j) = (A,B) → Ev (fun k => QP.passepartoutref05_fit.l0 k q (j : Int) h.k h.s h.lo h.hi h.st (P.map ofF) a.n (bI a.b) (l.map ofV)) (if B = 0 then (A,0) else (0,B)) := by
   intro hlen d
   induction d with
   | zero =>
    intro j q hd hj hAB
    apply Ev.step
    ·intro k
     simp only [QP.passepartoutref05_fit.l0,List.length_map]
     rfl
    refine Ev.in_ (by omega) ?_
    rw [List.drop_of_length_le (by omega),fitL_nil] at hAB
    by_cases k3 : h.k = 3
    ·rw [if_pos k3] at hAB
     injection hAB with e1 e2
     subst e1 e2
     exact Ev.ip k3 (Ev.now _)
    ·rw [if_neg k3] at hAB
     injection hAB with e1 e2
     subst e1 e2
     have hs := hown.k12 (.inr (by omega))
     refine Ev.in_ k3 (Ev.cb (between_f _ _ _ _ (by omega)) ?_)
     by_cases hm : mayR q h.lo h.hi h.st = 0
     ·rw [decide_eq_true hm,if_pos hm]
      exact Ev.ip rfl (Ev.now _)
     ·rw [decide_eq_false hm,if_neg hm]
      have := mayR_vals q h.lo h.hi h.st
      rw [show mayR q h.lo h.hi h.st = 5 by omega]
      exact Ev.in_ (by simp) (Ev.now _)
   | succ d ihd =>
    intro j q hd hj hAB
    have hlt : j < l.length := by omega
    have hP0 : 0 < P.length := by
     rcases hk23 with k2 | k3
     ·have := hone k2;omega
     ·have := hlen k3;omega
    rw [fitL_drop _ _ _ _ _ hlt] at hAB
    have hstep : ∀ (i : Nat) (hi : i < P.length),i = j % P.length → Ev (fun k => (QP.passepartoutref05_fit.f k P[i].a.k P[i].a.s P[i].a.lo P[i].a.hi P[i].a.st (P[i].l.map ofF) l[j].a.n (bI l[j].a.b) (l[j].l.map ofV)).bind fun bt => (if bt.2 = 0 then (QP.passepartoutref05_fit.l0 k (wrap64 (q + bt.1)) (wrap64 ((j : Int) + 1)) h.k h.s h.lo h.hi h.st (P.map ofF) a.n (bI a.b) (l.map ofV)) else (some (0,bt.2)))) (if B = 0 then (A,0) else (0,B)) := by
     intro i hi hij
     have hg : P.getD (j % P.length) nilF = P[i] := by rw [← hij];simp [hi]
     rw [hg] at hAB
     refine Ev.bind (ih l[j] (List.getElem_mem hlt) P[i] (hPw _ (List.getElem_mem hi)) (hPc _ (List.getElem_mem hi)) (hlw _ (List.getElem_mem hlt))) ?_
     unfold fit5
     by_cases he : (fitR P[i] l[j]).2 = 0
     ·rw [if_pos he] at hAB ⊢
      refine Ev.ip he ?_
      rw [w64 (x := (j : Int) + 1) (by omega) (by omega),show (j : Int) + 1 = ((j + 1 : Nat) : Int) by omega]
      exact ihd (j + 1) _ (by omega) (by omega) hAB
     ·rw [if_neg he] at hAB ⊢
      injection hAB with e1 e2
      subst e1 e2
      rw [if_neg he]
      exact Ev.in_ he (Ev.now _)
    apply Ev.step
    ·intro k
     simp only [QP.passepartoutref05_fit.l0,List.length_map,rd_ofV l j hlt,ofV_f0,ofV_f1,ofV_f2]
     rfl
    refine Ev.ip (by omega) ?_
    by_cases k3 : h.k = 3
    ·have hjP : j < P.length := by have := hlen k3;omega
     refine Ev.ip k3 (Ev.ip (by omega) (Ev.ip (by omega) ?_))
     simp only [rd_ofF P j hjP,of_f0,of_f1,of_f2,of_f3,of_f4,of_f5]
     exact hstep j hjP (Nat.mod_eq_of_lt hjP).symm
    ·have hP1 : P.length = 1 := hone (by omega)
     refine Ev.in_ k3 (Ev.ip (by omega) (Ev.ip (by omega) ?_))
     have e0 : QP.rd_T24 (P.map ofF) 0 = ofF (P[0]'(by omega)) := rd_ofF P 0 (by omega)
     simp only [e0,of_f0,of_f1,of_f2,of_f3,of_f4,of_f5]
     exact hstep 0 (by omega) (by rw [hP1,Nat.mod_one])
  have hj2 : ∀ b2 : Bool,b2 = decide (h.k = 3 ∧ l.length ≠ P.length) → Ev (fun k => QP.passepartoutref05_fit.j2 k b2 h.k h.s h.lo h.hi h.st (P.map ofF) a.n (bI a.b) (l.map ofV)) (if B = 0 then (A,0) else (0,B)) := by
   intro b2 hb2
   apply Ev.step
   ·intro k
    simp only [QP.passepartoutref05_fit.j2]
    rfl
   by_cases hc : h.k = 3 ∧ l.length ≠ P.length
   ·rw [if_pos hc] at hAB
    injection hAB with e1 e2
    subst e1 e2
    rw [decide_eq_true hc] at hb2
    exact Ev.ip hb2 (Ev.now _)
   ·rw [if_neg hc] at hAB
    rw [decide_eq_false hc] at hb2
    refine Ev.in_ (by simp [hb2]) ?_
    exact key (fun k3 => Decidable.byContradiction fun hne => hc ⟨k3,hne⟩) l.length 0 0 (by omega) (by omega) (by rw [List.drop_zero];exact hAB)
  by_cases k3 : h.k = 3
  ·refine Ev.ip k3 (hj2 _ ?_)
   rw [Bool.eq_iff_iff]
   simp [k3]
   omega
  ·refine Ev.in_ k3 (hj2 _ ?_)
   simp [k3]
 have hj0 : ∀ (b6 b7 : Bool),b6 = decide (h.k = 0) → b7 = decide (h.k = 1 ∨ h.k = 4 ∨ h.k = 5) → Ev (fun k => QP.passepartoutref05_fit.j0 k b6 b7 h.k h.s h.lo h.hi h.st (P.map ofF) a.n (bI a.b) (l.map ofV)) (if B = 0 then (A,0) else (0,B)) := by
  intro b6 b7 h6 h7
  have hfld : fld h.k = if h.k = 0 then 0 else if h.k = 1 ∨ h.k = 4 ∨ h.k = 5 then 1 else if h.k = 2 ∨ h.k = 3 then 2 else 0 := by
   unfold fld
   split
   ·split <;> omega
   ·split
    ·split <;> omega
    ·split <;> rfl
  have hk := hown.k
  have hval : ∀ bb : Bool,(bb = true ↔ aloneB h.k a.n a.b.length l.length = false) → bb = decide (aloneB h.k a.n a.b.length l.length = false) := by
   intro bb hbb
   rw [Bool.eq_iff_iff,hbb]
   simp
  apply Ev.step
  ·intro k
   simp only [QP.passepartoutref05_fit.j0,bI_len,List.length_map]
   rfl
  by_cases k0 : h.k = 0
  ·rw [decide_eq_true k0] at h6
   rw [decide_eq_false (by omega)] at h7
   subst h6 h7
   refine Ev.ip rfl (Ev.in_ (by simp) ?_)
   by_cases hb0 : (a.b.length : Int) = 0
   ·refine Ev.ip hb0 (hj1 _ (hval _ ?_))
    unfold aloneB
    rw [hfld,if_pos k0]
    have : a.b.length = 0 := by omega
    simp [this]
   ·refine Ev.in_ hb0 (hj1 _ (hval _ ?_))
    unfold aloneB
    rw [hfld,if_pos k0]
    have : a.b.length ≠ 0 := by omega
    simp
    intro hh
    exact absurd (by rw [hh];rfl) this
  rw [decide_eq_false k0] at h6
  subst h6
  refine Ev.in_ (by simp) ?_
  by_cases hb : h.k = 1 ∨ h.k = 4 ∨ h.k = 5
  ·rw [decide_eq_true hb] at h7
   subst h7
   by_cases hn0 : a.n = 0
   ·refine Ev.ip hn0 (Ev.ip rfl (hj1 _ (hval _ ?_)))
    unfold aloneB
    rw [hfld,if_neg k0,if_pos hb]
    simp [hn0]
   ·refine Ev.in_ hn0 (hj1 _ (hval _ ?_))
    unfold aloneB
    rw [hfld,if_neg k0,if_pos hb]
    simp [hn0]
  ·rw [decide_eq_false hb] at h7
   subst h7
   have h23 : h.k = 2 ∨ h.k = 3 := by omega
   by_cases hn0 : a.n = 0
   ·refine Ev.ip hn0 (Ev.in_ (by simp) ?_)
    by_cases hb0 : (a.b.length : Int) = 0
    ·refine Ev.ip hb0 (hj1 _ (hval _ ?_))
     unfold aloneB
     rw [hfld,if_neg k0,if_neg hb,if_pos h23]
     have : a.b.length = 0 := by omega
     simp [hn0,this]
    ·refine Ev.in_ hb0 (hj1 _ (hval _ ?_))
     unfold aloneB
     rw [hfld,if_neg k0,if_neg hb,if_pos h23]
     have : a.b.length ≠ 0 := by omega
     simp [hn0]
     intro hh
     exact absurd (by rw [hh];rfl) this
   ·refine Ev.in_ hn0 (hj1 _ (hval _ ?_))
    unfold aloneB
    rw [hfld,if_neg k0,if_neg hb,if_pos h23]
    simp [hn0]
 apply Ev.step
 ·intro k
  simp only [QP.passepartoutref05_fit.f]
  rfl
 have h6 : (h.k == 0) = decide (h.k = 0) := by rw [Bool.eq_iff_iff];simp
 by_cases k1 : h.k = 1
 ·exact Ev.ip k1 (hj0 _ _ h6 (by rw [decide_eq_true (.inl k1)]))
 refine Ev.in_ k1 ?_
 by_cases k4 : h.k = 4
 ·exact Ev.ip k4 (hj0 _ _ h6 (by rw [decide_eq_true (.inr (.inl k4))]))
 refine Ev.in_ k4 (hj0 _ _ h6 ?_)
 rw [Bool.eq_iff_iff]
 simp [k1,k4]
theorem Fits5_ev (f : Fm) (x : Vt) (hf : wfF f = true) (hx : wfV x = true) : Ev (fun k => QP.passepartoutref05_Fits.f k f.a.k f.a.s f.a.lo f.a.hi f.a.st (f.l.map ofF) x.a.n (bI x.a.b) (x.l.map ofV)) (sizeR f x) := by
 simp only [QP.passepartoutref05_Fits.f]
 refine Ev.bind (Check_ev f hf) ?_
 rw [sizeR]
 by_cases hc : (if deepB 8 f = true then (14 : Int) else checkR f) = 0
 ·refine Ev.rp hc ?_
  have hck : checkR f = 0 := by
   split at hc
   ·omega
   ·exact hc
  refine Ev.ip hc (Ev.bind (fit5_ev x f hf hck hx) ?_)
  unfold fit5
  by_cases he : (fitR f x).2 = 0
  ·rw [if_pos he,if_pos he,he]
   exact Ev.now _
  ·rw [if_neg he,if_neg he]
   exact Ev.now _
 ·refine Ev.rn hc ?_
  exact Ev.in_ hc (Ev.now _)
end Go.Proofs.YtdhnfccgojgehaaDoor

namespace Go.Proofs.YtdhnfccgojgehaaDoor
open Go.RowKit YtdhnfccgojgehaaDoorW.PrintWords

theorem fits05_any (ok ok2 : Nat → Prop) (f : Fm) (x : Vt) (v u : Value) (w : World) (hv : FmR w ok v f) (hu : VtR w ok2 u x) : Calls Tryd.prog 14 #[v,u] w fun e w' => e = .returned (.tuple #[.int .i64 (sizeR f x).1,.int .i64 (sizeR f x).2]) ∧ Kp (fun _ => False) w w' := by
 obtain ⟨K,hK⟩ := (Fits5_ev f x hv.wf hu.wf).rounds
 obtain ⟨⟨k,s,lo,hi,st⟩,P⟩ := f
 obtain ⟨⟨n,b⟩,l⟩ := x
 obtain ⟨A,c,rfl,_,_,_,_,_,_,_,h1⟩ := hv.parts
 obtain ⟨A1,c1,A2,c2,rfl,_,_,hbl,hb,_,_,h2⟩ := hu.parts
 obtain ⟨_,g1,g2⟩ := h1.c
 obtain ⟨_,g3,g4⟩ := br_c hb hbl
 obtain ⟨_,g5,g6⟩ := h2.c
 have := QP.passepartoutref05_Fits.calls K k s lo hi st A c (P.map ofF) n A1 c1 (bI b) A2 c2 (l.map ofV) _ _ w g2 g1 g4 g3 g6 g5 hK
 simp only [List.length_map,bI_len] at this
 exact this.mono fun e w' h => ⟨h.1,Kp.of_below h.2⟩
end Go.Proofs.YtdhnfccgojgehaaDoor

namespace Go.Proofs.YtdhnfccgojgehaaDoor
open Go.RowKit

def fA : Fm := .mk ⟨3,0,0,0,0⟩ [.mk ⟨0,1,0,0,0⟩ [],.mk ⟨1,1,1,3,1⟩ []]
abbrev fAcells : Array Value := #[.int .i64 0,.int .i64 1,.int .i64 0,.int .i64 0,.int .i64 0,.slice none 0 0,.int .i64 1,.int .i64 1,.int .i64 1,.int .i64 3,.int .i64 1,.slice none 0 0]
end Go.Proofs.YtdhnfccgojgehaaDoor

namespace Go.Proofs.YtdhnfccgojgehaaDoor
open Go.RowKit

theorem VtR.ltx {w : World} {ok : Nat → Prop} {v : Value} {x : Vt} (h : VtR w ok v x) : VtR w (fun i => ok i ∧ i < w.heap.size) v x := by
 obtain ⟨bv,sv,e,h1,h2,h3,A,c,e2,h4,h5,h6⟩ := h
 exact ⟨bv,sv,e,h1,h2.lt_,h3,A,c,e2,h4,h5,TL.lt_ VHd_lt h6⟩

local notation "Vz" => (#[Value.int IntKind.u64 0, Value.slice none 0 0, Value.slice none 0 0] : Array Value)
/-- What holds on the way: what stood before stands; the result's block, where it is made; a byte's block, where it is made. -/
def Ra (W0 w : World) (al : Option Nat) (lt : Option (Nat × UInt8)) : Prop :=
 Kp (W0.heap.size ≤ ·) W0 w ∧ (∀ V,al = some V → W0.heap.size ≤ V ∧ Blk w V 31 Vz) ∧ (∀ g c,lt = some (g,c) → W0.heap.size ≤ g ∧ g < w.heap.size ∧ BR w (· = g) (.slice (some ⟨g,0,none⟩) 1 1) [c])
def okA (W0 : World) (al : Option Nat) (lt : Option (Nat × UInt8)) (j : Nat) : Prop := W0.heap.size ≤ j ∧ (∀ c,lt ≠ some (j,c)) ∧ al ≠ some j
def Rr (W0 w : World) (al : Option Nat) (lt : Option (Nat × UInt8)) (A : Option Addr) (n c : Nat) (l : List UInt8) : Prop :=
 Ra W0 w al lt ∧ Own w (okA W0 al lt) 5 1 (.slice A n c) n (bc l)
def Rc (W0 w : World) (al : Option Nat) (lt : Option (Nat × UInt8)) (v : Value) (x : Vt) : Prop :=
 Ra W0 w al lt ∧ VtR w (okA W0 al lt) v x
section
variable {W0 w w' : World} {al : Option Nat} {lt : Option (Nat × UInt8)} {S : Nat → Prop} {A : Option Addr} {n c : Nat} {l : List UInt8} {v : Value} {x : Vt}
theorem Ra.kp (h : Ra W0 w al lt) : Kp (W0.heap.size ≤ ·) W0 w := h.1
theorem Ra.step (h : Ra W0 w al lt) (hk : Kp S w w') (hS : ∀ j,S j → okA W0 al lt j) : Ra W0 w' al lt := by
 obtain ⟨h1,h2,h3⟩ := h
 refine ⟨h1.then_ hk (fun j hj => .inl (hS j hj).1),fun V e => ?_,fun g c e => ?_⟩
 ·obtain ⟨a,b⟩ := h2 V e
  exact ⟨a,b.kp hk (fun hs => (hS V hs).2.2 e)⟩
 ·obtain ⟨a,b,d⟩ := h3 g c e
  exact ⟨a,Nat.lt_of_lt_of_le b hk.size,d.kp hk (fun j e2 hs => (hS j hs).2.1 c (by rw [e2];exact e))⟩
theorem Ra.more (h : Ra W0 w none lt) : Ra W0 (w.alloc (.cells Vz 31)) (some w.heap.size) lt := by
 have h2 := h.step ((Kp.refl (fun _ => False) w).alloc (.cells Vz 31)) (fun _ h => h.elim)
 exact ⟨h2.1,fun V e => by injection e with e;subst e;exact ⟨h.1.size,Blk.new w _ _⟩,h2.2.2⟩
theorem Ra.byte (h : Ra W0 w al none) (c : UInt8) (cs : Array Value) (hcs : cs = (bc [c]).toArray) : Ra W0 (w.alloc (.cells cs 5)) al (some (w.heap.size,c)) := by
 have h2 := h.step ((Kp.refl (fun _ => False) w).alloc (.cells cs 5)) (fun _ h => h.elim)
 refine ⟨h2.1,h2.2.1,fun g c2 e => ?_⟩
 injection e with e
 injection e with e1 e2
 subst e1 e2
 exact ⟨h.1.size,by rw [World.size_alloc];exact Nat.lt_succ_self _,BR.lit w _ [c] cs 1 rfl hcs⟩
theorem okA.fresh (h : Ra W0 w al lt) {j : Nat} (hj : w.heap.size ≤ j) : okA W0 al lt j := by
 refine ⟨Nat.le_trans h.1.size hj,fun c e => ?_,fun e => ?_⟩
 ·have := (h.2.2 j c e).2.1
  omega
 ·have := (h.2.1 j e).2.lt
  omega
theorem Ra.lit (h : Ra W0 w al lt) : Rr W0 (w.alloc (.cells #[] 5)) al lt (some ⟨w.heap.size,0,none⟩) 0 0 [] := by
 refine ⟨h.step ((Kp.refl (fun _ => False) w).alloc (.cells #[] 5)) (fun _ h => h.elim),?_⟩
 exact (Own.lit_ w 5 1 [] #[] 0 w.heap.size rfl rfl (Nat.le_refl _) (by decide)).mono (fun i _ hi => okA.fresh h hi)
theorem okA.small (h : Ra W0 w none lt) {j : Nat} (hj : j < w.heap.size) (hk : okA W0 none lt j) : okA W0 (some w.heap.size) lt j :=
 ⟨hk.1,hk.2.1,fun e => by injection e with e;omega⟩
theorem Rr.more (h : Rr W0 w none lt A n c l) : Rr W0 (w.alloc (.cells Vz 31)) (some w.heap.size) lt A n c l := by
 refine ⟨h.1.more,?_⟩
 exact (h.2.mono (ok' := okA W0 (some w.heap.size) lt) (fun i hi hk => okA.small h.1 hi hk)).kp ((Kp.refl (fun _ => False) w).alloc _) (fun _ _ h => h)
theorem Rr.byte (h : Rr W0 w al none A n c l) (d : UInt8) (cs : Array Value) (hcs : cs = (bc [d]).toArray) : Rr W0 (w.alloc (.cells cs 5)) al (some (w.heap.size,d)) A n c l := by
 refine ⟨h.1.byte d cs hcs,?_⟩
 exact (h.2.mono (ok' := okA W0 al (some (w.heap.size,d))) (fun i hi hk => ⟨hk.1,fun c e => by injection e with e;injection e with e _;omega,hk.2.2⟩)).kp ((Kp.refl (fun _ => False) w).alloc _) (fun _ _ h => h)
theorem Rr.read (h : Rr W0 w al lt A n c l) (hn : l.length = n) : BR w (· < w.heap.size) (.slice A n c) l := by
 subst hn
 exact ((BR.of_own h.2.1 h.2.2).lt_).mono (fun _ hi => hi.2)
theorem Ra.one {d : UInt8} (h : Ra W0 w al (some (n,d))) : BR w (fun j => j = n) (.slice (some ⟨n,0,none⟩) 1 1) [d] := (h.2.2 n d rfl).2.2
theorem Ra.call (h : Ra W0 w al lt) (hk : Kp (fun _ => False) w w') (hv : VtR w' (w.heap.size ≤ ·) v x) : Rc W0 w' al lt v x :=
 ⟨h.step hk (fun _ h => h.elim),hv.mono (fun j hj => okA.fresh h hj)⟩
theorem Rc.more (h : Rc W0 w none lt v x) : Rc W0 (w.alloc (.cells Vz 31)) (some w.heap.size) lt v x := by
 refine ⟨h.1.more,?_⟩
 exact (h.2.ltx.mono (ok' := okA W0 (some w.heap.size) lt) (fun i hi => okA.small h.1 hi.2 hi.1)).kp ((Kp.refl (fun _ => False) w).alloc _) (fun _ _ h => h)
/-- The end of the region: the result's block holds what was read. -/
def Rend (W0 w : World) (V : Nat) (n : Int) (s1 s2 : Value) (x : Vt) : Prop :=
 Kp (fun _ => False) W0 w ∧ W0.heap.size ≤ V ∧ Blk w V 31 #[.int .u64 n,s1,s2] ∧ VtR w (fun _ => True) (.agg #[.int .u64 n,s1,s2]) x
end

end Go.Proofs.YtdhnfccgojgehaaDoor

namespace Go.Proofs.YtdhnfccgojgehaaDoor
open Go.RowKit

set_option maxRecDepth 100000 in
set_option maxHeartbeats 6400000 in
theorem wback_walk (w : World) (tab : Tab06 w) (v : Value) (f : Fm) (hv : FmR w (· < w.heap.size) v f) (u : Value) (x : Vt) (hu : VtR w (· < w.heap.size) u x) :
  Calls Tryd.prog 8 #[v,u] w fun e w' => e = .returned (.bool true) ∧ Below w.heap.size w w' := by
 refine Calls.mono (R := fun e w' => e = .returned (.bool true) ∧ Kp (fun _ => False) w w') ?_ fun _ _ ⟨h1,h2⟩ => ⟨h1,h2.below⟩
 have hwx := hu.wf
 obtain ⟨⟨n,er⟩,hsz⟩ : ∃ r,sizeR f x = r := ⟨_,rfl⟩
 obtain ⟨⟨k,s,lo,hi,st⟩,P⟩ := f
 obtain ⟨A0,c0,rfl⟩ := hv.form_
 obtain ⟨⟨a,b⟩,l⟩ := x
 obtain ⟨A1,c1,A2,c2,rfl,_,_,_,_,_,_,_⟩ := hu.parts
 have ka : Kp (fun _ => False) w ((w.alloc (.cells #[.int .i64 k,.int .i64 s,.int .i64 lo,.int .i64 hi,.int .i64 st,.slice A0 P.length c0] 24)).alloc (.cells #[.int .u64 a,.slice A1 b.length c1,.slice A2 l.length c2] 31)) := ((Kp.refl _ w).alloc _).alloc _
 have hbf := (Blk.new w 24 #[.int .i64 k,.int .i64 s,.int .i64 lo,.int .i64 hi,.int .i64 st,.slice A0 P.length c0]).alloc (.cells #[.int .u64 a,.slice A1 b.length c1,.slice A2 l.length c2] 31)
 have hbv := Blk.new (w.alloc (.cells #[.int .i64 k,.int .i64 s,.int .i64 lo,.int .i64 hi,.int .i64 st,.slice A0 P.length c0] 24)) 31 #[.int .u64 a,.slice A1 b.length c1,.slice A2 l.length c2]
 simp only [World.size_alloc] at hbv
 have HBF := Lib.hid hbf
 have HBV := Lib.hid hbv
 have HKA := Lib.hid ka
 have HAL := Lib.hid alive07_any
 have HFV := Lib.hid (fun W (hk : Kp (fun _ => False) w W) => hv.kp hk (fun _ _ h => h))
 have HUV := Lib.hid (fun W (hk : Kp (fun _ => False) w W) => hu.kp hk (fun _ _ h => h))
 have HTB := Lib.hid (fun W (hk : Kp (fun _ => False) w W) => (show Tab06 W from tab.kp hk (fun h => h)))
 have HOK := Lib.hid (okk tab)
 obtain ⟨gr,hgr⟩ : ∃ gr : Int,(if decide (500 < cntR 500 (.mk ⟨k,s,lo,hi,st⟩ P)) || [(RT.mk ⟨a,b⟩ l : Vt)].any bigV then 1 else 0) = gr := ⟨_,rfl⟩
 have HGR := Lib.hid (fun W g (hk : Kp (fun _ => False) w W) (hb : Blk W g 31 #[.int .u64 a,.slice A1 b.length c1,.slice A2 l.length c2]) => greatL_any (· < w.heap.size) (· < W.heap.size) (.mk ⟨k,s,lo,hi,st⟩ P) [.mk ⟨a,b⟩ l] _ _ W (hv.kp hk (fun _ _ h => h)) (((hu.kp hk (fun _ _ h => h)).mono (fun i hi => Nat.lt_of_lt_of_le hi hk.size)).one_ hb hb.lt) (by simpa using hwx))
 rw [hgr] at HGR
 clear ka hv hu tab hbf hbv
 have hgc : gr = 1 ∨ (gr = 0 ∧ szF (.mk ⟨k,s,lo,hi,st⟩ P) ≤ 100000 ∧ bigV (.mk ⟨a,b⟩ l) = false) := by
  by_cases h : 500 < cntR 500 (.mk ⟨k,s,lo,hi,st⟩ P)
  ·simp [h] at hgr
   exact .inl hgr.symm
  ·cases hb : bigV (.mk ⟨a,b⟩ l) with
   | true =>
    simp [hb] at hgr
    exact .inl hgr.symm
   | false =>
    simp [h,hb] at hgr
    exact .inr ⟨hgr.symm,sz_ok h,rfl⟩
 clear hgr
 have HWX := Lib.hid hwx
 have HSZ := Lib.hid hsz
 clear hwx hsz
 go_enter Tryd.func8,Tryd.ntmps8
 go_upto_region 1 with fail
 generalize (w.alloc (.cells #[.int .i64 k,.int .i64 s,.int .i64 lo,.int .i64 hi,.int .i64 st,.slice A0 P.length c0] 24)).alloc (.cells #[.int .u64 a,.slice A1 b.length c1,.slice A2 l.length c2] 31) = W0 at HBF HBV HKA ⊢
 have HA0 := Lib.hid (HAL.out W0)
 go_wp2_with fail
 refine HA0.out.mono ?_
 rintro e w1 ⟨rfl,hk1⟩
 have HK1 := Lib.hid (HKA.out.then_ hk1 (fun _ h => h.elim))
 have HBF1 := Lib.hid (HBF.out.kp hk1 (fun h => h))
 have HBV1 := Lib.hid (HBV.out.kp hk1 (fun h => h))
 have f0 := HBF1.out.cell 0
 have f1 := HBF1.out.cell 1
 have f2 := HBF1.out.cell 2
 have f3 := HBF1.out.cell 3
 have f4 := HBF1.out.cell 4
 have f5 := HBF1.out.cell 5
 have u0 := HBV1.out.cell 0
 have u1 := HBV1.out.cell 1
 have u2 := HBV1.out.cell 2
 simp at f0 f1 f2 f3 f4 f5 u0 u1 u2
 clear hk1 HA0 HBF HBV HKA
 have kb : Kp (fun _ => False) w1 (w1.alloc (.cells #[.int .u64 a,.slice A1 b.length c1,.slice A2 l.length c2] 31)) := (Kp.refl _ w1).alloc _
 have HKB := Lib.hid kb
 have HG1 := Lib.hid (HGR.out _ _ (HK1.out.then_ kb (fun _ h => h.elim)) (Blk.new w1 31 #[.int .u64 a,.slice A1 b.length c1,.slice A2 l.length c2]))
 clear kb
 go_wp2_with fail
 refine HG1.out.mono ?_
 rintro e w2 ⟨rfl,hk⟩
 have hk12 := HKB.out.then_ hk (fun _ h => h.elim)
 have HK2 := Lib.hid (HK1.out.then_ hk12 (fun _ h => h.elim))
 have HBF2 := Lib.hid (HBF1.out.kp hk12 (fun h => h))
 have HBV2 := Lib.hid (HBV1.out.kp hk12 (fun h => h))
 clear hk hk12 f0 f1 f2 f3 f4 f5 u0 u1 u2 HG1 HBF1 HBV1 HGR HKB
 have HAZ := Lib.hid (HAL.out w2)
 rcases hgc with rfl | ⟨rfl,hszf,hbig⟩
 ·go_wp2_with fail
  refine HAZ.out.mono ?_
  rintro e w9 ⟨rfl,hk9⟩
  have HK9 := Lib.hid (HK2.out.then_ hk9 (fun _ h => h.elim))
  clear hk9
  go_wp2_with fail
  go_ret
  exact ⟨rfl,HK9.out⟩
 have g0 := HBF2.out.cell 0
 have g1 := HBF2.out.cell 1
 have g2 := HBF2.out.cell 2
 have g3 := HBF2.out.cell 3
 have g4 := HBF2.out.cell 4
 have g5 := HBF2.out.cell 5
 have u0 := HBV2.out.cell 0
 have u1 := HBV2.out.cell 1
 have u2 := HBV2.out.cell 2
 simp at g0 g1 g2 g3 g4 g5 u0 u1 u2
 clear HAZ HAL
 by_cases her : er = 0
 rotate_left
 ·have hner : (er != 0) = true := by simpa using her
  have HW := Lib.hid (wwrite_bad _ _ _ _ _ _ w2 (fun i hi => Nat.lt_of_lt_of_le hi HK2.out.size) (HFV.out w2 HK2.out) (HUV.out w2 HK2.out) n er HSZ.out her)
  clear her
  go_wp2_with fail
  refine HW.out.mono ?_
  rintro e w5 ⟨rfl,hk⟩
  have HK5 := Lib.hid (HK2.out.then_ hk (fun _ h => h.elim))
  have HBF5 := Lib.hid (HBF2.out.kp hk (fun h => h))
  have HBV5 := Lib.hid (HBV2.out.kp hk (fun h => h))
  have hft := fits05_any _ _ _ _ _ _ w5 (HFV.out w5 HK5.out) (HUV.out w5 HK5.out)
  rw [HSZ.out] at hft
  have HFT := Lib.hid hft
  clear hk hft HW HBF2 HBV2 g0 g1 g2 g3 g4 g5 u0 u1 u2
  have g0 := HBF5.out.cell 0
  have g1 := HBF5.out.cell 1
  have g2 := HBF5.out.cell 2
  have g3 := HBF5.out.cell 3
  have g4 := HBF5.out.cell 4
  have g5 := HBF5.out.cell 5
  have u0 := HBV5.out.cell 0
  have u1 := HBV5.out.cell 1
  have u2 := HBV5.out.cell 2
  simp at g0 g1 g2 g3 g4 g5 u0 u1 u2
  go_wp2_with fail
  refine HFT.out.mono ?_
  rintro e w6 ⟨rfl,hk⟩
  have HK6 := Lib.hid (HK5.out.then_ hk (fun _ h => h.elim))
  clear hk HFT HBF5 HBV5 g0 g1 g2 g3 g4 g5 u0 u1 u2
  go_wp2_with fail
  go_ret
  exact ⟨rfl,HK6.out⟩
 subst her
 obtain ⟨hlen,hcnt⟩ := wr_small HSZ.out hbig
 obtain ⟨q1,q2,_,_,_⟩ := back_all hszf HWX.out hcnt HSZ.out
 have hWW := wwrite_ok _ _ _ _ w2 hszf ((HFV.out w2 HK2.out).mono (fun i hi => Nat.lt_of_lt_of_le hi HK2.out.size)) ((HUV.out w2 HK2.out).mono (fun i hi => Nat.lt_of_lt_of_le hi HK2.out.size)) n HSZ.out HWX.out (by omega)
 obtain ⟨ub,hub⟩ : ∃ ub,writeR (.mk ⟨k,s,lo,hi,st⟩ P) (.mk ⟨a,b⟩ l) = ub := ⟨_,rfl⟩
 rw [hub] at hlen q1 q2 hWW
 subst q2
 have HRA := Lib.hid q1
 have HWW := Lib.hid hWW
 clear hub q1 hWW hcnt hbig
 go_wp2_with fail
 refine HWW.out.mono ?_
 rintro e w5 ⟨A5,c5,rfl,hbr5,hk⟩
 have HK5 := Lib.hid (HK2.out.then_ hk (fun _ h => h.elim))
 have HBF5 := Lib.hid (HBF2.out.kp hk (fun h => h))
 have HBV5 := Lib.hid (HBV2.out.kp hk (fun h => h))
 have HBR5 := Lib.hid (hbr5.lt_)
 have hft := fits05_any _ _ _ _ _ _ w5 (HFV.out w5 HK5.out) (HUV.out w5 HK5.out)
 rw [HSZ.out] at hft
 have HFT := Lib.hid hft
 clear hk hft hbr5 HWW HBF2 HBV2 g0 g1 g2 g3 g4 g5 u0 u1 u2
 have g0 := HBF5.out.cell 0
 have g1 := HBF5.out.cell 1
 have g2 := HBF5.out.cell 2
 have g3 := HBF5.out.cell 3
 have g4 := HBF5.out.cell 4
 have g5 := HBF5.out.cell 5
 have u0 := HBV5.out.cell 0
 have u1 := HBV5.out.cell 1
 have u2 := HBV5.out.cell 2
 simp at g0 g1 g2 g3 g4 g5 u0 u1 u2
 go_wp2_with fail
 refine HFT.out.mono ?_
 rintro e w6 ⟨rfl,hk⟩
 have HK6 := Lib.hid (HK5.out.then_ hk (fun _ h => h.elim))
 have HBF6 := Lib.hid (HBF5.out.kp hk (fun h => h))
 have HBV6 := Lib.hid (HBV5.out.kp hk (fun h => h))
 have HR := Lib.hid (read_at (· < w6.heap.size) (.mk ⟨k,s,lo,hi,st⟩ P) _ _ ub 0 w6 a b l ub.length 0 HRA.out hszf ((HFV.out w6 HK6.out).mono (fun i hi => Nat.lt_of_lt_of_le hi HK6.out.size)) ((HBR5.out.kp hk (fun _ _ h => h)).mono (fun i hi => Nat.lt_of_lt_of_le hi.2 hk.size)) (fun i hi => hi) (Nat.lt_of_lt_of_le HOK.out HK6.out.size) (by omega) (by omega) (by omega) (HTB.out w6 HK6.out))
 simp only [Int.zero_add] at HR
 clear hk HFT HBF5 HBV5 HBR5 g0 g1 g2 g3 g4 g5 u0 u1 u2
 have g0 := HBF6.out.cell 0
 have g1 := HBF6.out.cell 1
 have g2 := HBF6.out.cell 2
 have g3 := HBF6.out.cell 3
 have g4 := HBF6.out.cell 4
 have g5 := HBF6.out.cell 5
 simp at g0 g1 g2 g3 g4 g5
 go_upto_region 8 with (go_at_call 12;refine HR.out.mono ?_;rintro e w7 ⟨A7,c7,A8,c8,rfl,hv,hk⟩)
 have hk8 := hk.then_ ((Kp.refl (fun _ => False) w7).alloc (.cells #[.int .u64 a,.slice A7 b.length c7,.slice A8 l.length c8] 31)) (fun _ h => h.elim)
 have HV8 := Lib.hid (hv.kp ((Kp.refl (fun _ => False) w7).alloc (.cells #[.int .u64 a,.slice A7 b.length c7,.slice A8 l.length c8] 31)) (fun _ _ h => h))
 have HBN := Lib.hid (Blk.new w7 31 #[.int .u64 a,.slice A7 b.length c7,.slice A8 l.length c8])
 generalize w7.heap.size = V1 at HBN ⊢
 generalize w7.alloc (.cells #[.int .u64 a,.slice A7 b.length c7,.slice A8 l.length c8] 31) = W8 at hk8 HV8 HBN ⊢
 have HK8 := Lib.hid (HK6.out.then_ hk8 (fun _ h => h.elim))
 have HBV8 := Lib.hid (HBV6.out.kp hk8 (fun h => h))
 clear hv hk hk8 HR HBF6 HBV6 g0 g1 g2 g3 g4 g5
 have hsm := same05_any _ _ _ _ _ _ W8 (HUV.out W8 HK8.out) HV8.out
 rw [sameV_refl] at hsm
 have HSM := Lib.hid hsm
 have u0 := HBV8.out.cell 0
 have u1 := HBV8.out.cell 1
 have u2 := HBV8.out.cell 2
 have v0 := HBN.out.cell 0
 have v1 := HBN.out.cell 1
 have v2 := HBN.out.cell 2
 simp at u0 u1 u2 v0 v1 v2
 clear hsm
 go_wp2_with fail
 refine HSM.out.mono ?_
 rintro e w9 ⟨rfl,hk⟩
 have HK9 := Lib.hid (HK8.out.then_ hk (fun _ h => h.elim))
 clear hk HSM HBV8 HBN u0 u1 u2 v0 v1 v2
 go_wp2_with fail
 go_ret
 exact ⟨rfl,HK9.out⟩
end Go.Proofs.YtdhnfccgojgehaaDoor

namespace Go.Proofs.YtdhnfccgojgehaaDoor
open Go.Joins Go.ChangeShapes Go.WideShapes Go.ChangeAt Go.RowKit Go.Deep

theorem i64B_of {n : Int} (h : (Lit.int .i64 n).wf = true) : i64B n := by
 obtain ⟨h0,h1⟩ := bounds_i64 h
 exact ⟨h0,by omega⟩
section
variable {H : Type} {enc : TypeId × Value → H} {w : World} {sp : Nat → Bool} {held : Bool} {r : Reach} {b0 : Nat}
end
end Go.Proofs.YtdhnfccgojgehaaDoor

namespace Go.Proofs.YtdhnfccgojgehaaDoor
set_option maxRecDepth 100000
open Go.Joins Go.ChangeShapes Go.WideShapes Go.ChangeAt Go.RowKit Go.Deep

theorem okWide_struct_ {P : Program} {w : World} {r : Reach} {b : Nat} {t : TypeId} {fs : Array Field} {v : Value} (ht : P.underlying t = some (.struct fs)) (h : Value.okWide P w r b t v) : ∃ cs,v = .agg cs := by
 simp only [Value.okWide,ht] at h
 obtain ⟨cs,h1,_⟩ := h
 exact ⟨cs,h1⟩
theorem form_type : TreeType Tryd.prog 24 22 (match Tryd.prog.underlying 24 with | some (.struct fs) => fs | _ => #[]) 5 where
 ht := by rw [Tryd.underlying24]
 hone := by rw [Tryd.underlying24];kernel_rfl
 hC := by kernel_rfl
 hn := by rw [Tryd.underlying24];rfl
 hlast := by rw [Tryd.underlying24];rfl
 hts := Tryd.underlying22
 hB := by rw [show Tryd.prog.bytesOf 24 = 64 from by kernel_rfl];omega
section
variable {H : Type} {enc : TypeId × Value → H} {w : World} {sp : Nat → Bool} {held : Bool} {r : Reach} {b0 : Nat}
theorem sized_at {P : Program} {ts : List TypeId} {ds : List (DataW H)} (hsz : (DataW.weightsEach P ts ds).all (· ≤ reachBytes) = true) {j : Nat} {t : TypeId} {d : DataW H} (ht : ts[j]? = some t) (hd : ds[j]? = some d) : (d.weights P t).all (· ≤ reachBytes) = true :=
 List.all_eq_true.2 fun n hn => List.all_eq_true.1 hsz n (DataW.weights_mem_each ht hd n hn)
theorem form_head : HeadOpen enc Tryd.prog w sp held (match Tryd.prog.underlying 24 with | some (.struct fs) => fs | _ => #[]) 5 FHd := by
 intro vs ds hl hf
 have each : ∀ i,i < 5 → ∃ n : Int,vs[i]? = some (.int .i64 n) ∧ i64B n := by
  intro i hi
  obtain ⟨f,v,d,ps,fuel,hfi,hv,_,ht,_⟩ := hf i hi
  have hft : f.type = 3 := by
   rw [Tryd.underlying24] at hfi
   rcases (show i = 0 ∨ i = 1 ∨ i = 2 ∨ i = 3 ∨ i = 4 by omega) with rfl | rfl | rfl | rfl | rfl <;>
    ·simp at hfi
     rw [← hfi]
  rw [hft] at ht
  obtain ⟨k0,e0,_,hw0⟩ := DataW.trod_int Tryd.underlying3 ht
  simp only [List.cons.injEq,and_true] at e0
  exact ⟨k0,by rw [hv,e0],i64B_of hw0⟩
 obtain ⟨a,ha,b0⟩ := each 0 (by omega)
 obtain ⟨b,hb,b1⟩ := each 1 (by omega)
 obtain ⟨c,hc,b2⟩ := each 2 (by omega)
 obtain ⟨d,hd,b3⟩ := each 3 (by omega)
 obtain ⟨e,he,b4⟩ := each 4 (by omega)
 refine ⟨⟨a,b,c,d,e⟩,?_,⟨b0,b1,b2,b3,b4⟩⟩
 rcases vs with _ | ⟨v0,_ | ⟨v1,_ | ⟨v2,_ | ⟨v3,_ | ⟨v4,_ | ⟨v5,vs⟩⟩⟩⟩⟩⟩ <;> simp_all
theorem open_form {v : Value} {d : DataW H} {ps : List MemPlace} {ts : List TypeId} {ds : List (DataW H)} (hv : Value.okWide Tryd.prog w r b0 24 v) (h : DataW.Trod enc Tryd.prog w 0 sp held 24 v d ps)
  (_hsz : (DataW.weightsEach Tryd.prog ts ds).all (· ≤ reachBytes) = true) {j : Nat} (_ht : ts[j]? = some 24) (_hd : ds[j]? = some d) : ∃ x : Fm,FmR w (· < w.heap.size) v x := by
 obtain ⟨cs,rfl⟩ := okWide_struct_ Tryd.underlying24 hv
 obtain ⟨fuel,hf⟩ := h
 obtain ⟨x,hx⟩ := (open_tree_ form_type form_head fuel).1 _ _ _ hf (sized_at _hsz _ht _hd)
 have h1 := (FmR.of_tr hx).1
 rw [show (Value.agg cs).cells.toList.toArray = cs from by simp [Value.cells]] at h1
 exact ⟨x,h1⟩
end
end Go.Proofs.YtdhnfccgojgehaaDoor

namespace Go.Proofs.YtdhnfccgojgehaaDoor
open Go.ChangeShapes Go.WideShapes Go.ChangeAt Go.RowKit Go.Deep

section
variable {H : Type} {enc : TypeId × Value → H} {P : Program} {w : World} {spare : Nat → Bool} {held : Bool}

theorem cells_ir {t e : TypeId} {k : IntKind} {v : Value} {fuel : Nat} {x : DataW H × List MemPlace} (ht : P.underlying t = some (.slice e)) (he : P.underlying e = some (.int k)) (hC : P.cellsOf e = 1)
  (hf : DataW.trod enc P w 0 spare held fuel t [v] = some x) :
  ∃ l : List Int,IR k w (· < w.heap.size) v l ∧ (∀ n ∈ l,(Lit.int k n).wf = true) ∧ lenD x.1 = l.length ∧ l.length ≤ maxLen := by
 rcases open_ints ht he hC hf with ⟨hcs,hx⟩ | ⟨x,l,c,zs,hcs,_,hl,hm,hz,hx,hcell,hwz⟩
 ·simp only [List.cons.injEq,and_true] at hcs
  subst hcs hx
  exact ⟨[],⟨none,0,rfl,Nat.le_refl _,Rd.none_⟩,fun n hn => by simp at hn,rfl,Nat.zero_le _⟩
 ·simp only [List.cons.injEq,and_true] at hcs
  subst hcs hx
  have hlz : l ≤ zs.length := by rw [hz];split <;> omega
  have hlt : (zs.take l).length = l := by simp;omega
  refine ⟨zs.take l,⟨some x,c,?_,?_,?_,fun hn => ?_⟩,fun n hn => hwz n (List.mem_of_mem_take hn),?_,by rw [hlt];omega⟩
  ·rw [hlt]
  ·rw [hlt];exact hl
  ·simp [ic]
  ·have h0 := hcell 0 (by rw [hlt] at hn;omega)
   have hsp : x.spot = none := by simpa [Addr.add] using World.cell?_spot h0
   have hb := cell_lt h0
   rw [block_add] at hb
   refine ⟨x,rfl,hsp,hb,fun j u hu => ?_⟩
   simp only [ic,List.getElem?_map,List.getElem?_take] at hu
   split at hu
   ·rename_i hj
    have hj' : j < zs.length := by omega
    rw [List.getElem?_eq_getElem hj'] at hu
    simp at hu
    subst hu
    have h1 := hcell j hj'
    rw [h1]
    simp [List.getElem?_eq_getElem hj']
   ·simp at hu
  ·simp [lenD,lits]

theorem cells_br {t e : TypeId} {v : Value} {fuel : Nat} {x : DataW H × List MemPlace} (ht : P.underlying t = some (.slice e)) (he : P.underlying e = some (.int .u8)) (hC : P.cellsOf e = 1)
  (hf : DataW.trod enc P w 0 spare held fuel t [v] = some x) :
  ∃ l : List UInt8,BR w (· < w.heap.size) v l ∧ lenD x.1 = l.length ∧ l.length ≤ maxLen := by
 obtain ⟨l,⟨A,c,rfl,hc,hr⟩,hw,hd,hm⟩ := cells_ir ht he hC hf
 obtain ⟨m,hme,hl⟩ := bytes_of hw
 refine ⟨m,⟨A,c,by rw [hl],by omega,?_⟩,by omega,by omega⟩
 rw [← hme,hl]
 exact hr
end
end Go.Proofs.YtdhnfccgojgehaaDoor

namespace Go.Proofs.YtdhnfccgojgehaaDoor
set_option maxRecDepth 100000
open Go.Joins Go.ChangeShapes Go.WideShapes Go.ChangeAt Go.RowKit Go.Deep

theorem value_type : TreeType Tryd.prog 31 29 (match Tryd.prog.underlying 31 with | some (.struct fs) => fs | _ => #[]) 2 where
 ht := by rw [Tryd.underlying31]
 hone := by rw [Tryd.underlying31];kernel_rfl
 hC := by kernel_rfl
 hn := by rw [Tryd.underlying31];rfl
 hlast := by rw [Tryd.underlying31];rfl
 hts := Tryd.underlying29
 hB := by rw [show Tryd.prog.bytesOf 31 = 56 from by kernel_rfl];omega
section
variable {H : Type} {enc : TypeId × Value → H} {w : World} {sp : Nat → Bool} {held : Bool} {r : Reach} {b0 : Nat}
theorem weights_lenD {P : Program} {t e : TypeId} {d : DataW H} (ht : P.underlying t = some (.slice e)) (h : (d.weights P t).all (· ≤ reachBytes) = true) : lenD d * P.bytesOf e ≤ 140737488351232 := by
 cases d with
 | slice es rest => exact weights_len ht h
 | _ => simp [lenD]
theorem value_head : HeadOpen enc Tryd.prog w sp held (match Tryd.prog.underlying 31 with | some (.struct fs) => fs | _ => #[]) 2 VHd := by
 intro vs ds hl hf
 obtain ⟨f0,v0,d0,ps0,fuel0,hf0,hv0,_,ht0,_⟩ := hf 0 (by omega)
 obtain ⟨f1,v1,d1,ps1,fuel1,hf1,hv1,_,ht1,hw1⟩ := hf 1 (by omega)
 have e0 : f0.type = 28 := by
  rw [Tryd.underlying31] at hf0
  simp at hf0
  rw [← hf0]
 have e1 : f1.type = 25 := by
  rw [Tryd.underlying31] at hf1
  simp at hf1
  rw [← hf1]
 rw [e0] at ht0
 rw [e1] at ht1 hw1
 obtain ⟨k0,x0,_,hk0⟩ := DataW.trod_int Tryd.underlying28 ht0
 simp only [List.cons.injEq,and_true] at x0
 obtain ⟨b,hb,hb2,_⟩ := cells_br Tryd.underlying25 Tryd.underlying5 (by kernel_rfl) ht1
 have hlen := weights_lenD Tryd.underlying25 hw1
 rw [show Tryd.prog.bytesOf 5 = 1 from by kernel_rfl,Nat.mul_one] at hlen
 obtain ⟨q0,q1⟩ := bounds_u64 hk0
 refine ⟨⟨k0,b⟩,v1,?_,⟨q0,by show k0 < _;omega⟩,hb,by show b.length ≤ _;simp only at hb2;omega⟩
 rcases vs with _ | ⟨y0,_ | ⟨y1,_ | ⟨y2,vs⟩⟩⟩ <;> simp_all
theorem open_value {v : Value} {d : DataW H} {ps : List MemPlace} {ts : List TypeId} {ds : List (DataW H)} (hv : Value.okWide Tryd.prog w r b0 31 v) (h : DataW.Trod enc Tryd.prog w 0 sp held 31 v d ps)
  (_hsz : (DataW.weightsEach Tryd.prog ts ds).all (· ≤ reachBytes) = true) {j : Nat} (_ht : ts[j]? = some 31) (_hd : ds[j]? = some d) : ∃ x : Vt,VtR w (· < w.heap.size) v x := by
 obtain ⟨cs,rfl⟩ := okWide_struct_ Tryd.underlying31 hv
 obtain ⟨fuel,hf⟩ := h
 obtain ⟨x,hx⟩ := (open_tree_ value_type value_head fuel).1 _ _ _ hf (sized_at _hsz _ht _hd)
 have h1 := (VtR.of_tr hx).1
 rw [show (Value.agg cs).cells.toList.toArray = cs from by simp [Value.cells]] at h1
 exact ⟨x,h1⟩
end
end Go.Proofs.YtdhnfccgojgehaaDoor

namespace Go.Proofs.YtdhnfccgojgehaaDoor.writeBack
open Go.ChangeShapes Go.WideShapes Go.ChangeAt Go.RowKit
set_option linter.unusedVariables false

theorem own : ownKnob Tryd.prog.godebug = none := by kernel_rfl
theorem laidOut : laidOutB Tryd.prog = true := by kernel_rfl

theorem door_met (os : Os) (args : Array Value) : laidMetH Tryd.prog Rows.writeBackRow.laid ((World.doorLaid Tryd.prog 14 os).forCall (fun _ _ => 0) ⟨#[],args,[]⟩).memory :=
 laidMetH_of_parts3 (fuel := 8) (laidMet_of_run' 8 (by kernel_rfl) (by kernel_rfl)) (by kernel_rfl) (by kernel_rfl)

set_option maxRecDepth 100000 in
theorem lifted (os : Os) (started : os.Started) (H : Type) (enc : TypeId × Value → H) :
  ReturnsInHanded {} Tryd.checked os 8 .any (fun w args => (Rows.writeBackSpec.pre enc Tryd.prog Tryd.f8 [] false w args ∧ laidMetH Tryd.prog Rows.writeBackRow.laid w) ∧ sizedMet enc Tryd.prog Tryd.f8 (OpenSpec.ofChange Rows.writeBackSpec) false w args) (Rows.writeBackSpec.post enc Tryd.prog Tryd.f8 false true false false) := by
 refine returnsInHanded_of_change_and (C := Tryd.checked) (X := fun w _ => laidMetH Tryd.prog Rows.writeBackRow.laid w) (fun _ _ _ hh h => h.of_heap hh) own started (by kernel_rfl) Tryd.func8
  (ChangeSpec.witness_shaped (enc := enc) (C := Tryd.checked) (os := os) (X := fun w _ => laidMetH Tryd.prog Rows.writeBackRow.laid w) false (World.doorLaid Tryd.prog 14 os) #[.agg #[.int .i64 0,.int .i64 0,.int .i64 0,.int .i64 0,.int .i64 0,.slice none 0 0],.agg #[.int .u64 0,.slice none 0 0,.slice none 0 0]] 8 rfl (World.shaped_of_RefB (by kernel_rfl) (by kernel_rfl)) (by kernel_rfl) (by kernel_rfl) (by kernel_rfl) (door_met os _)) ?_
 intro W base args ds gs before hval0 hW hcnd hsz0 hL _
 have tab := tab06 hL
 have hval : ∀ (j : Nat) t v,Tryd.f8.params[j]? = some t → args[j]? = some v → Value.okWide Tryd.prog W .any base t v := hval0
 have hW' := hW
 obtain ⟨p,q,hA0,hV,rfl,hfz,hnd⟩ := hW
 have hA : DataW.TrodAll enc Tryd.prog W 0 (fun _ => true) true Tryd.f8.params.toList args.toList ds p := hA0
 obtain ⟨rfl,rfl⟩ := trodVars_none hV
 have hsz : (DataW.weightsEach Tryd.prog (Tryd.f8.params.toList ++ []) (ds ++ [])).all (· ≤ reachBytes) = true := hsz0
 rw [List.append_nil,List.append_nil] at hsz
 rw [Tryd.params8] at hA hval hsz
 obtain ⟨v0,vs0,d0,ds0,p0,q0,hargs,rfl,rfl,h0,r0⟩ := trodAll_cons hA
 obtain ⟨v1,vs1,d1,ds1,p1,q1,rfl,rfl,rfl,h1,r1⟩ := trodAll_cons r0
 obtain ⟨rfl,rfl,rfl⟩ := trodAll_nil r1
 obtain rfl : args = #[v0,v1] := by cases args;simp_all
 have k0 := h0
 have lt0 : ∀ x ∈ p0,x.block < W.heap.size := by obtain ⟨m,hm⟩ := k0;exact DataW.trod_lt m _ _ _ hm
 have k1 := h1
 have lt1 : ∀ x ∈ p1,x.block < W.heap.size := by obtain ⟨m,hm⟩ := k1;exact DataW.trod_lt m _ _ _ hm
 obtain ⟨l0,b0⟩ := open_form (hval 0 24 v0 rfl rfl) h0 (_hsz := hsz) (j := 0) rfl rfl
 obtain ⟨l1,b1⟩ := open_value (hval 1 31 v1 rfl rfl) h1 (_hsz := hsz) (j := 1) rfl rfl
 clear hA0 hval0 hsz0
 refine (wback_walk W tab v0 l0 b0 v1 l1 b1).mono fun e W' ⟨he,bel⟩ => ?_
 subst he
 exact ⟨_,rfl,_,_,_,[],_,[],hW',trodAll_mk1 (shut_bool Tryd.underlying4 _),(trodAll_cons_mk (Below.trod laidOut (by kernel_rfl) (of_decide_eq_true (by kernel_rfl)) k0 bel lt0) (trodAll_cons_mk (Below.trod laidOut (by kernel_rfl) (of_decide_eq_true (by kernel_rfl)) k1 bel lt1) trodAll_mk0)),rfl,bel.frame _,fun h => by cases h⟩

theorem over : Rows.writeBackRow.holds Tryd.pinned (OpenSpec.ofChange Rows.writeBackSpec) :=
 OpenClaim.holds_of_wide 8 Tryd.f8 rfl rfl rfl rfl rfl rfl rfl ⟨rfl,rfl,rfl,rfl,rfl⟩ rfl rfl rfl rfl rfl (by kernel_rfl) Tryd.func8 (by kernel_rfl)
  (of_decide_eq_true (by kernel_rfl)) (by unfold Func.isWrapper;first | (rw [if_pos (by decide +kernel)];kernel_rfl) | (rw [if_neg (by decide +kernel)];exact ⟨rfl,rfl⟩))
  (fun os started H enc _ => lifted os started H enc)

/-- The tied card. -/
theorem proved : Rows.WriteBackCardSaid :=
 Claim7.holds_tied_plain_at .later [] [.funcs] true (true, "e0098d0829a2599098fefe819577bd5761af052264c8981f1d992b28d8fe1bea") false
  over (fun _ h => by cases h) (by kernel_rfl) (fun _ h => by cases h) writeBack_row_tie rfl ⟨rfl,rfl⟩ (by kernel_rfl) rfl
  (fun f fn hf hfn => by
   obtain rfl : f = 8 := Option.some.inj ((show Tryd.prog.funcNamed "passepartout/passepartoutlaw07.WriteBack" = some 8 by kernel_rfl).symm.trans hf) |>.symm
   obtain rfl : fn = Tryd.f8 := (Option.some.inj (Tryd.func8.symm.trans hfn)).symm
   exact ⟨by kernel_rfl,fun j t ht => by
    rw [Tryd.params8] at ht
    have hm : t ∈ [24,31] := by simpa using Array.mem_of_getElem? ht
    have hall : ([24,31].all fun u => !Tryd.prog.wantsStandIn u) = true := by kernel_rfl
    exact (show Tryd.prog.wantsStandIn t = false by simpa using List.all_eq_true.1 hall t hm)⟩)
  (by kernel_rfl)
#print axioms proved
end Go.Proofs.YtdhnfccgojgehaaDoor.writeBack
