/-
  The law ReadPrefix: for every input it returns true, and its arguments read behind the call as before it. No condition.
-/
import Derived.Deep.RegionHeld3
import Derived.Deep.RegionLaw
import Derived.Deep.DeepCutAuto
import Derived.Test.YtdhnfccgojgehaaDoorProg
import Derived.Lib.SmallJoins
import Derived.Test.YtdhnfccgojgehaaDoorRows
import Derived.Test.YtdhnfccgojgehaaDoorCards
import Derived.Test.YtdhnfccgojgehaaDoorTie
import Derived.SevenTiedAt
import Derived.ProofKit
import Derived.LaidMore
import Derived.Stop.Joined
import Derived.Test.YtdhnfccgojgehaaDoorMReadPrefix1
import Derived.Test.YtdhnfccgojgehaaDoorMReadPrefix2
import Derived.Test.YtdhnfccgojgehaaDoorMReadPrefix3
import Derived.Test.YtdhnfccgojgehaaDoorMReadPrefix4
import Derived.Test.YtdhnfccgojgehaaDoorMReadPrefix5

set_option linter.unusedVariables false
set_option linter.unusedSimpArgs false
namespace Go.Proofs.YtdhnfccgojgehaaDoor.QP
open Go.RowKit Go.Proofs.YtdhnfccgojgehaaDoorW.PrintWords Go.Proofs.YtdhnfccgojgehaaDoorW.PrintLast Go.Proofs.YtdhnfccgojgehaaDoorW.PrintMore
attribute [local go_sem] max2_int min2_int max_two min_two max_three min_three max_four min_four   -- for this text's walks alone
set_option linter.unusedVariables false
set_option linter.unusedSimpArgs false

/-! ### passepartoutref05_Fits: function 14 -/
def passepartoutref05_Fits.f (k : Nat) (a0_0 : Int) (a0_1 : Int) (a0_2 : Int) (a0_3 : Int) (a0_4 : Int) (l0_5 : List (S24)) (a1_0 : Int) (l1_1 : List Int) (l1_2 : List (S31)) : Option (Int × Int) := (passepartoutref04_Check.f k a0_0 a0_1 a0_2 a0_3 a0_4 l0_5).bind fun t149 => (if t149 = 0 then ((passepartoutref05_fit.f k a0_0 a0_1 a0_2 a0_3 a0_4 l0_5 a1_0 l1_1 l1_2).bind fun bt150 => (some (bt150.1, bt150.2))) else (some (0, t149)))
theorem passepartoutref05_Fits.mono : ∀ a0 a1 a2 a3 a4 a5 a6 a7 a8 k, LeO (passepartoutref05_Fits.f k a0 a1 a2 a3 a4 a5 a6 a7 a8) (passepartoutref05_Fits.f (k + 1) a0 a1 a2 a3 a4 a5 a6 a7 a8) := by
  intro a0 a1 a2 a3 a4 a5 a6 a7 a8 k
  unfold passepartoutref05_Fits.f
  repeat' first
      | (with_reducible exact passepartoutref04_Check.mono _ _ _ _ _ _ _)
      | (with_reducible exact passepartoutref05_fit.mono _ _ _ _ _ _ _ _ _ _)
      | (with_reducible exact LeO.refl _)
      | (with_reducible exact LeO.none _)
      | (with_reducible refine LeO.ite ?_ ?_)
      | (with_reducible refine LeO.bind ?_ (fun _ => ?_))
      | exact passepartoutref04_Check.mono _ _ _ _ _ _ _
      | exact passepartoutref05_fit.mono _ _ _ _ _ _ _ _ _ _
      | exact LeO.none _
      | refine LeO.ite ?_ ?_
      | refine LeO.bind ?_ (fun _ => ?_)
set_option maxHeartbeats 8000000 in
set_option maxRecDepth 100000 in
theorem passepartoutref05_Fits.calls (k : Nat) (a0_0 : Int) (a0_1 : Int) (a0_2 : Int) (a0_3 : Int) (a0_4 : Int) (A0_5 : Option Addr) (c0_5 : Nat) (l0_5 : List (S24)) (a1_0 : Int) (A1_1 : Option Addr) (c1_1 : Nat) (l1_1 : List Int) (A1_2 : Option Addr) (c1_2 : Nat) (l1_2 : List (S31)) (r1 : Int) (r2 : Int) (w : World) (hr0_5 : Kd.C k24 w A0_5 l0_5.length l0_5) (hc0_5 : l0_5.length ≤ c0_5) (hr1_1 : Kd.C (Kd.int .u8) w A1_1 l1_1.length l1_1) (hc1_1 : l1_1.length ≤ c1_1) (hr1_2 : Kd.C k31 w A1_2 l1_2.length l1_2) (hc1_2 : l1_2.length ≤ c1_2) (h : passepartoutref05_Fits.f k a0_0 a0_1 a0_2 a0_3 a0_4 l0_5 a1_0 l1_1 l1_2 = some (r1, r2)) :
    Calls Tryd.prog 14 #[.agg #[.int .i64 a0_0, .int .i64 a0_1, .int .i64 a0_2, .int .i64 a0_3, .int .i64 a0_4, .slice A0_5 l0_5.length c0_5], .agg #[.int .u64 a1_0, .slice A1_1 l1_1.length c1_1, .slice A1_2 l1_2.length c1_2]] w fun e w' => e = .returned (.tuple #[.int .i64 r1, .int .i64 r2]) ∧ Below w.heap.size w w' := by
  have hu24 := Tryd.underlying24
  have hu31 := Tryd.underlying31
  have HR0_5 := Aside0.mk hr0_5
  have HC0_5 := Aside0.mk hc0_5
  clear hr0_5 hc0_5
  have HR1_1 := Aside0.mk hr1_1
  have HC1_1 := Aside0.mk hc1_1
  clear hr1_1 hc1_1
  have HR1_2 := Aside0.mk hr1_2
  have HC1_2 := Aside0.mk hc1_2
  clear hr1_2 hc1_2
  have HB := Aside0.mk (Below.refl w.heap.size w)
  have H : ((passepartoutref04_Check.f k a0_0 a0_1 a0_2 a0_3 a0_4 l0_5).bind fun t149 => (if t149 = 0 then ((passepartoutref05_fit.f k a0_0 a0_1 a0_2 a0_3 a0_4 l0_5 a1_0 l1_1 l1_2).bind fun bt150 => (some (bt150.1, bt150.2))) else (some (0, t149)))) = some (r1, r2) := h
  clear h
  replace H := Option.bind_eq_some_iff.mp H
  obtain ⟨t149, A30, H⟩ := H
  replace H : (if t149 = 0 then ((passepartoutref05_fit.f k a0_0 a0_1 a0_2 a0_3 a0_4 l0_5 a1_0 l1_1 l1_2).bind fun bt150 => (some (bt150.1, bt150.2))) else (some (0, t149))) = some (r1, r2) := H
  have A3 := Aside0.mk A30
  clear A30
  by_cases c4 : t149 = 0
  · rw [if_pos c4] at H
    have c4b0 : (t149 == 0) = true := beq_iff_eq.mpr c4
    have c4b1 : (t149 != 0) = false := bne_eq_false_iff_eq.mpr c4
    clear c4
    replace H := Option.bind_eq_some_iff.mp H
    obtain ⟨⟨t150, t151⟩, A50, H⟩ := H
    replace H : (some (t150, t151)) = some (r1, r2) := H
    have A5 := Aside0.mk A50
    clear A50
    simp only [Option.some.injEq, Prod.mk.injEq] at H
    obtain ⟨rfl, rfl⟩ := H
    go_enter Tryd.func14, Tryd.ntmps14
    go_wp2_with (first | ((with_reducible refine gate_dst (N := 2) rfl ?_); refine box_event ?hg (N := 2) ?hd (cs := #[.int .i64 a0_0, .int .i64 a0_1, .int .i64 a0_2, .int .i64 a0_3, .int .i64 a0_4, .slice A0_5 l0_5.length c0_5]) (t := 24) ?hr ?_; (case hd => rfl); (case hg => rfl); (case hr => first | (go_simp; done) | (go_simp; rfl)); intro gb147 hg w6 hbox hb; have n0_ := Aside0.mk (below_step (by repeat (first | (with_reducible first | exact HB.out | apply below_alloc | apply pw_below_drewN | apply below_drew1) | exact HB.out)) hb); have n1_ := Aside0.mk (hbox); have n2_ := Aside0.mk ((by rw [hg]; exact (below_size (by repeat (first | (with_reducible first | exact HB.out | apply below_alloc | apply pw_below_drewN | apply below_drew1) | exact HB.out))) : w.heap.size ≤ gb147)); have n3_ := Aside0.mk ((by rw [hg]; exact (below_size (by repeat (first | (with_reducible first | exact HB.out | apply below_alloc | apply pw_below_drewN | apply below_drew1) | exact HB.out))) : w.heap.size ≤ gb147)); clear HB; have HB := n0_; have BK147 := n1_; have GW147 := n2_; have GE147 := n3_; clear n0_ n1_ n2_ n3_; clear hb hbox hg) | ((with_reducible refine gate_dst (N := 3) rfl ?_); refine box_event ?hg (N := 3) ?hd (cs := #[.int .u64 a1_0, .slice A1_1 l1_1.length c1_1, .slice A1_2 l1_2.length c1_2]) (t := 31) ?hr ?_; (case hd => rfl); (case hg => rfl); (case hr => first | (go_simp; done) | (go_simp; rfl)); intro gb148 hg w7 hbox hb; have n0_ := Aside0.mk (blk_below (g := gb147) (o := .cells #[.int .i64 a0_0, .int .i64 a0_1, .int .i64 a0_2, .int .i64 a0_3, .int .i64 a0_4, .slice A0_5 l0_5.length c0_5] 24 (0, 0)) (by (with_reducible repeat (first | refine blk_drewN ?_ _ | refine blk_drew ?_ | refine blk_alloc ?_ _)); exact BK147.out) hb); have n1_ := Aside0.mk (below_step (by repeat (first | (with_reducible first | exact HB.out | apply below_alloc | apply pw_below_drewN | apply below_drew1 | refine below_set ?_ GE147.out) | exact HB.out)) hb); have n2_ := Aside0.mk (hbox); have n3_ := Aside0.mk ((by rw [hg]; exact (below_size (by repeat (first | (with_reducible first | exact HB.out | apply below_alloc | apply pw_below_drewN | apply below_drew1 | refine below_set ?_ GE147.out) | exact HB.out))) : w.heap.size ≤ gb148)); have n4_ := Aside0.mk ((by rw [hg]; exact (below_size (by repeat (first | (with_reducible first | exact HB.out | apply below_alloc | apply pw_below_drewN | apply below_drew1 | refine below_set ?_ GE147.out) | exact HB.out))) : w.heap.size ≤ gb148)); have n5_ := Aside0.mk ((by rw [hg]; exact Nat.ne_of_lt (blk_lt (g := gb147) (o := .cells #[.int .i64 a0_0, .int .i64 a0_1, .int .i64 a0_2, .int .i64 a0_3, .int .i64 a0_4, .slice A0_5 l0_5.length c0_5] 24 (0, 0)) (by (with_reducible repeat (first | refine blk_drewN ?_ _ | refine blk_drew ?_ | refine blk_alloc ?_ _)); exact BK147.out)) : gb147 ≠ gb148)); have n6_ := Aside0.mk ((by rw [hg]; exact Nat.ne_of_gt (blk_lt (g := gb147) (o := .cells #[.int .i64 a0_0, .int .i64 a0_1, .int .i64 a0_2, .int .i64 a0_3, .int .i64 a0_4, .slice A0_5 l0_5.length c0_5] 24 (0, 0)) (by (with_reducible repeat (first | refine blk_drewN ?_ _ | refine blk_drew ?_ | refine blk_alloc ?_ _)); exact BK147.out)) : gb148 ≠ gb147)); clear BK147; clear HB; have BK147 := n0_; have HB := n1_; have BK148 := n2_; have GW148 := n3_; have GE148 := n4_; have NB147_148 := n5_; have NB148_147 := n6_; clear n0_ n1_ n2_ n3_ n4_ n5_ n6_; clear hb hbox hg; have hnb8 := NB147_148.out; have hnc8 := NB148_147.out; have hcz9_0 : w7.cell? ⟨gb147, 0, none⟩ = some (.int .i64 a0_0) := (blk_cell BK147.out 0).trans rfl; have hcz9_1 : w7.cell? ⟨gb147, 1, none⟩ = some (.int .i64 a0_1) := (blk_cell BK147.out 1).trans rfl; have hcz9_2 : w7.cell? ⟨gb147, 2, none⟩ = some (.int .i64 a0_2) := (blk_cell BK147.out 2).trans rfl; have hcz9_3 : w7.cell? ⟨gb147, 3, none⟩ = some (.int .i64 a0_3) := (blk_cell BK147.out 3).trans rfl; have hcz9_4 : w7.cell? ⟨gb147, 4, none⟩ = some (.int .i64 a0_4) := (blk_cell BK147.out 4).trans rfl; have hcz9_5 : w7.cell? ⟨gb147, 5, none⟩ = some (.slice A0_5 l0_5.length c0_5) := (blk_cell BK147.out 5).trans rfl; have hfz9_0 := blk_frozen BK147.out 0; have hfz9_1 := blk_frozen BK147.out 1; have hfz9_2 := blk_frozen BK147.out 2; have hfz9_3 := blk_frozen BK147.out 3; have hfz9_4 := blk_frozen BK147.out 4; have hfz9_5 := blk_frozen BK147.out 5) | ((with_reducible refine gate_callee (f := 16) rfl ?_); refine goesL_ (some 8) rfl rfl Tryd.func16 (by kernel_rfl) rfl #[.agg #[.int .i64 a0_0, .int .i64 a0_1, .int .i64 a0_2, .int .i64 a0_3, .int .i64 a0_4, .slice A0_5 l0_5.length c0_5]] rfl (by (try simp only [List.map_toArray, List.map_cons, List.map_nil]); first | done | rfl | (simp only [List.length_drop, List.length_take]; rfl)) ?_; (with_reducible refine (passepartoutref04_Check.calls k a0_0 a0_1 a0_2 a0_3 a0_4 _ _ l0_5 t149 _ ?side1 ?side2 A3.out).mono ?_); (case side1 => repeat (first | exact (Kd.C_below HR0_5.out HB.out) | (with_reducible refine Kd.C_alloc ?_ _) | (with_reducible refine Kd.C_drewN ?_ _) | (with_reducible refine Kd.C_drew ?_))); (case side2 => exact HC0_5.out); rintro e w10 ⟨rfl, hb⟩; refine ⟨_, rfl, ?_⟩; have n0_ := Aside0.mk (blk_below (g := gb147) (o := .cells #[.int .i64 a0_0, .int .i64 a0_1, .int .i64 a0_2, .int .i64 a0_3, .int .i64 a0_4, .slice A0_5 l0_5.length c0_5] 24 (0, 0)) (by (with_reducible repeat (first | refine blk_drewN ?_ _ | refine blk_drew ?_ | refine blk_alloc ?_ _)); exact BK147.out) hb); have n1_ := Aside0.mk (blk_below (g := gb148) (o := .cells #[.int .u64 a1_0, .slice A1_1 l1_1.length c1_1, .slice A1_2 l1_2.length c1_2] 31 (0, 0)) (by (with_reducible repeat (first | refine blk_drewN ?_ _ | refine blk_drew ?_ | refine blk_alloc ?_ _)); exact BK148.out) hb); have n2_ := Aside0.mk (below_step (by repeat (first | (with_reducible first | exact HB.out | apply below_alloc | apply pw_below_drewN | apply below_drew1 | refine below_set ?_ GE147.out | refine below_set ?_ GE148.out) | exact HB.out)) hb); clear BK147; clear BK148; clear HB; have BK147 := n0_; have BK148 := n1_; have HB := n2_; clear n0_ n1_ n2_; (try clear hb); (try clear hb2); (try clear hk); (try clear hi); have hcz11_0 : w10.cell? ⟨gb147, 0, none⟩ = some (.int .i64 a0_0) := (blk_cell BK147.out 0).trans rfl; have hcz11_1 : w10.cell? ⟨gb147, 1, none⟩ = some (.int .i64 a0_1) := (blk_cell BK147.out 1).trans rfl; have hcz11_2 : w10.cell? ⟨gb147, 2, none⟩ = some (.int .i64 a0_2) := (blk_cell BK147.out 2).trans rfl; have hcz11_3 : w10.cell? ⟨gb147, 3, none⟩ = some (.int .i64 a0_3) := (blk_cell BK147.out 3).trans rfl; have hcz11_4 : w10.cell? ⟨gb147, 4, none⟩ = some (.int .i64 a0_4) := (blk_cell BK147.out 4).trans rfl; have hcz11_5 : w10.cell? ⟨gb147, 5, none⟩ = some (.slice A0_5 l0_5.length c0_5) := (blk_cell BK147.out 5).trans rfl; have hfz11_0 := blk_frozen BK147.out 0; have hfz11_1 := blk_frozen BK147.out 1; have hfz11_2 := blk_frozen BK147.out 2; have hfz11_3 := blk_frozen BK147.out 3; have hfz11_4 := blk_frozen BK147.out 4; have hfz11_5 := blk_frozen BK147.out 5; have hcz12_0 : w10.cell? ⟨gb148, 0, none⟩ = some (.int .u64 a1_0) := (blk_cell BK148.out 0).trans rfl; have hcz12_1 : w10.cell? ⟨gb148, 1, none⟩ = some (.slice A1_1 l1_1.length c1_1) := (blk_cell BK148.out 1).trans rfl; have hcz12_2 : w10.cell? ⟨gb148, 2, none⟩ = some (.slice A1_2 l1_2.length c1_2) := (blk_cell BK148.out 2).trans rfl; have hfz12_0 := blk_frozen BK148.out 0; have hfz12_1 := blk_frozen BK148.out 1; have hfz12_2 := blk_frozen BK148.out 2) | ((with_reducible refine gate_callee (f := 28) rfl ?_); refine goesL_ (some 14) rfl rfl Tryd.func28 (by kernel_rfl) rfl #[.agg #[.int .i64 a0_0, .int .i64 a0_1, .int .i64 a0_2, .int .i64 a0_3, .int .i64 a0_4, .slice A0_5 l0_5.length c0_5], .agg #[.int .u64 a1_0, .slice A1_1 l1_1.length c1_1, .slice A1_2 l1_2.length c1_2]] rfl (by (try simp only [List.map_toArray, List.map_cons, List.map_nil]); first | done | rfl | (simp only [List.length_drop, List.length_take]; rfl)) ?_; (with_reducible refine (passepartoutref05_fit.calls k a0_0 a0_1 a0_2 a0_3 a0_4 _ _ l0_5 a1_0 _ _ l1_1 _ _ l1_2 t150 t151 _ ?side1 ?side2 ?side3 ?side4 ?side5 ?side6 A5.out).mono ?_); (case side1 => repeat (first | exact (Kd.C_below HR0_5.out HB.out) | (with_reducible refine Kd.C_alloc ?_ _) | (with_reducible refine Kd.C_drewN ?_ _) | (with_reducible refine Kd.C_drew ?_))); (case side2 => exact HC0_5.out); (case side3 => repeat (first | exact (Kd.C_below HR1_1.out HB.out) | (with_reducible refine Kd.C_alloc ?_ _) | (with_reducible refine Kd.C_drewN ?_ _) | (with_reducible refine Kd.C_drew ?_))); (case side4 => exact HC1_1.out); (case side5 => repeat (first | exact (Kd.C_below HR1_2.out HB.out) | (with_reducible refine Kd.C_alloc ?_ _) | (with_reducible refine Kd.C_drewN ?_ _) | (with_reducible refine Kd.C_drew ?_))); (case side6 => exact HC1_2.out); rintro e w13 ⟨rfl, hb⟩; refine ⟨_, rfl, ?_⟩; have n0_ := Aside0.mk (blk_below (g := gb147) (o := .cells #[.int .i64 a0_0, .int .i64 a0_1, .int .i64 a0_2, .int .i64 a0_3, .int .i64 a0_4, .slice A0_5 l0_5.length c0_5] 24 (0, 0)) (by (with_reducible repeat (first | refine blk_drewN ?_ _ | refine blk_drew ?_ | refine blk_alloc ?_ _)); exact BK147.out) hb); have n1_ := Aside0.mk (blk_below (g := gb148) (o := .cells #[.int .u64 a1_0, .slice A1_1 l1_1.length c1_1, .slice A1_2 l1_2.length c1_2] 31 (0, 0)) (by (with_reducible repeat (first | refine blk_drewN ?_ _ | refine blk_drew ?_ | refine blk_alloc ?_ _)); exact BK148.out) hb); have n2_ := Aside0.mk (below_step (by repeat (first | (with_reducible first | exact HB.out | apply below_alloc | apply pw_below_drewN | apply below_drew1 | refine below_set ?_ GE147.out | refine below_set ?_ GE148.out) | exact HB.out)) hb); clear BK147; clear BK148; clear HB; have BK147 := n0_; have BK148 := n1_; have HB := n2_; clear n0_ n1_ n2_; (try clear hb); (try clear hb2); (try clear hk); (try clear hi)))
    go_ret2
    exact ⟨by first | rfl | (simp [errW_none, errW_some] <;> rfl) | (simp [*, errW_none, errW_some] <;> rfl), by repeat (first | (with_reducible first | exact HB.out | apply below_alloc | apply pw_below_drewN | apply below_drew1 | refine below_set ?_ GE147.out | refine below_set ?_ GE148.out) | exact HB.out)⟩
  · rw [if_neg c4] at H
    have c4b0 : (t149 == 0) = false := beq_eq_false_iff_ne.mpr c4
    have c4b1 : (t149 != 0) = true := bne_iff_ne.mpr c4
    simp only [Option.some.injEq, Prod.mk.injEq] at H
    obtain ⟨rfl, rfl⟩ := H
    go_enter Tryd.func14, Tryd.ntmps14
    go_wp2_with (first | ((with_reducible refine gate_dst (N := 2) rfl ?_); refine box_event ?hg (N := 2) ?hd (cs := #[.int .i64 a0_0, .int .i64 a0_1, .int .i64 a0_2, .int .i64 a0_3, .int .i64 a0_4, .slice A0_5 l0_5.length c0_5]) (t := 24) ?hr ?_; (case hd => rfl); (case hg => rfl); (case hr => first | (go_simp; done) | (go_simp; rfl)); intro gb147 hg w14 hbox hb; have n0_ := Aside0.mk (below_step (by repeat (first | (with_reducible first | exact HB.out | apply below_alloc | apply pw_below_drewN | apply below_drew1) | exact HB.out)) hb); have n1_ := Aside0.mk (hbox); have n2_ := Aside0.mk ((by rw [hg]; exact (below_size (by repeat (first | (with_reducible first | exact HB.out | apply below_alloc | apply pw_below_drewN | apply below_drew1) | exact HB.out))) : w.heap.size ≤ gb147)); have n3_ := Aside0.mk ((by rw [hg]; exact (below_size (by repeat (first | (with_reducible first | exact HB.out | apply below_alloc | apply pw_below_drewN | apply below_drew1) | exact HB.out))) : w.heap.size ≤ gb147)); clear HB; have HB := n0_; have BK147 := n1_; have GW147 := n2_; have GE147 := n3_; clear n0_ n1_ n2_ n3_; clear hb hbox hg) | ((with_reducible refine gate_dst (N := 3) rfl ?_); refine box_event ?hg (N := 3) ?hd (cs := #[.int .u64 a1_0, .slice A1_1 l1_1.length c1_1, .slice A1_2 l1_2.length c1_2]) (t := 31) ?hr ?_; (case hd => rfl); (case hg => rfl); (case hr => first | (go_simp; done) | (go_simp; rfl)); intro gb148 hg w15 hbox hb; have n0_ := Aside0.mk (blk_below (g := gb147) (o := .cells #[.int .i64 a0_0, .int .i64 a0_1, .int .i64 a0_2, .int .i64 a0_3, .int .i64 a0_4, .slice A0_5 l0_5.length c0_5] 24 (0, 0)) (by (with_reducible repeat (first | refine blk_drewN ?_ _ | refine blk_drew ?_ | refine blk_alloc ?_ _)); exact BK147.out) hb); have n1_ := Aside0.mk (below_step (by repeat (first | (with_reducible first | exact HB.out | apply below_alloc | apply pw_below_drewN | apply below_drew1 | refine below_set ?_ GE147.out) | exact HB.out)) hb); have n2_ := Aside0.mk (hbox); have n3_ := Aside0.mk ((by rw [hg]; exact (below_size (by repeat (first | (with_reducible first | exact HB.out | apply below_alloc | apply pw_below_drewN | apply below_drew1 | refine below_set ?_ GE147.out) | exact HB.out))) : w.heap.size ≤ gb148)); have n4_ := Aside0.mk ((by rw [hg]; exact (below_size (by repeat (first | (with_reducible first | exact HB.out | apply below_alloc | apply pw_below_drewN | apply below_drew1 | refine below_set ?_ GE147.out) | exact HB.out))) : w.heap.size ≤ gb148)); have n5_ := Aside0.mk ((by rw [hg]; exact Nat.ne_of_lt (blk_lt (g := gb147) (o := .cells #[.int .i64 a0_0, .int .i64 a0_1, .int .i64 a0_2, .int .i64 a0_3, .int .i64 a0_4, .slice A0_5 l0_5.length c0_5] 24 (0, 0)) (by (with_reducible repeat (first | refine blk_drewN ?_ _ | refine blk_drew ?_ | refine blk_alloc ?_ _)); exact BK147.out)) : gb147 ≠ gb148)); have n6_ := Aside0.mk ((by rw [hg]; exact Nat.ne_of_gt (blk_lt (g := gb147) (o := .cells #[.int .i64 a0_0, .int .i64 a0_1, .int .i64 a0_2, .int .i64 a0_3, .int .i64 a0_4, .slice A0_5 l0_5.length c0_5] 24 (0, 0)) (by (with_reducible repeat (first | refine blk_drewN ?_ _ | refine blk_drew ?_ | refine blk_alloc ?_ _)); exact BK147.out)) : gb148 ≠ gb147)); clear BK147; clear HB; have BK147 := n0_; have HB := n1_; have BK148 := n2_; have GW148 := n3_; have GE148 := n4_; have NB147_148 := n5_; have NB148_147 := n6_; clear n0_ n1_ n2_ n3_ n4_ n5_ n6_; clear hb hbox hg; have hnb16 := NB147_148.out; have hnc16 := NB148_147.out; have hcz17_0 : w15.cell? ⟨gb147, 0, none⟩ = some (.int .i64 a0_0) := (blk_cell BK147.out 0).trans rfl; have hcz17_1 : w15.cell? ⟨gb147, 1, none⟩ = some (.int .i64 a0_1) := (blk_cell BK147.out 1).trans rfl; have hcz17_2 : w15.cell? ⟨gb147, 2, none⟩ = some (.int .i64 a0_2) := (blk_cell BK147.out 2).trans rfl; have hcz17_3 : w15.cell? ⟨gb147, 3, none⟩ = some (.int .i64 a0_3) := (blk_cell BK147.out 3).trans rfl; have hcz17_4 : w15.cell? ⟨gb147, 4, none⟩ = some (.int .i64 a0_4) := (blk_cell BK147.out 4).trans rfl; have hcz17_5 : w15.cell? ⟨gb147, 5, none⟩ = some (.slice A0_5 l0_5.length c0_5) := (blk_cell BK147.out 5).trans rfl; have hfz17_0 := blk_frozen BK147.out 0; have hfz17_1 := blk_frozen BK147.out 1; have hfz17_2 := blk_frozen BK147.out 2; have hfz17_3 := blk_frozen BK147.out 3; have hfz17_4 := blk_frozen BK147.out 4; have hfz17_5 := blk_frozen BK147.out 5) | ((with_reducible refine gate_callee (f := 16) rfl ?_); refine goesL_ (some 8) rfl rfl Tryd.func16 (by kernel_rfl) rfl #[.agg #[.int .i64 a0_0, .int .i64 a0_1, .int .i64 a0_2, .int .i64 a0_3, .int .i64 a0_4, .slice A0_5 l0_5.length c0_5]] rfl (by (try simp only [List.map_toArray, List.map_cons, List.map_nil]); first | done | rfl | (simp only [List.length_drop, List.length_take]; rfl)) ?_; (with_reducible refine (passepartoutref04_Check.calls k a0_0 a0_1 a0_2 a0_3 a0_4 _ _ l0_5 t149 _ ?side1 ?side2 A3.out).mono ?_); (case side1 => repeat (first | exact (Kd.C_below HR0_5.out HB.out) | (with_reducible refine Kd.C_alloc ?_ _) | (with_reducible refine Kd.C_drewN ?_ _) | (with_reducible refine Kd.C_drew ?_))); (case side2 => exact HC0_5.out); rintro e w18 ⟨rfl, hb⟩; refine ⟨_, rfl, ?_⟩; have n0_ := Aside0.mk (blk_below (g := gb147) (o := .cells #[.int .i64 a0_0, .int .i64 a0_1, .int .i64 a0_2, .int .i64 a0_3, .int .i64 a0_4, .slice A0_5 l0_5.length c0_5] 24 (0, 0)) (by (with_reducible repeat (first | refine blk_drewN ?_ _ | refine blk_drew ?_ | refine blk_alloc ?_ _)); exact BK147.out) hb); have n1_ := Aside0.mk (blk_below (g := gb148) (o := .cells #[.int .u64 a1_0, .slice A1_1 l1_1.length c1_1, .slice A1_2 l1_2.length c1_2] 31 (0, 0)) (by (with_reducible repeat (first | refine blk_drewN ?_ _ | refine blk_drew ?_ | refine blk_alloc ?_ _)); exact BK148.out) hb); have n2_ := Aside0.mk (below_step (by repeat (first | (with_reducible first | exact HB.out | apply below_alloc | apply pw_below_drewN | apply below_drew1 | refine below_set ?_ GE147.out | refine below_set ?_ GE148.out) | exact HB.out)) hb); clear BK147; clear BK148; clear HB; have BK147 := n0_; have BK148 := n1_; have HB := n2_; clear n0_ n1_ n2_; (try clear hb); (try clear hb2); (try clear hk); (try clear hi)))
    go_ret2
    exact ⟨by first | rfl | (simp [errW_none, errW_some] <;> rfl) | (simp [*, errW_none, errW_some] <;> rfl), by repeat (first | (with_reducible first | exact HB.out | apply below_alloc | apply pw_below_drewN | apply below_drew1 | refine below_set ?_ GE147.out | refine below_set ?_ GE148.out) | exact HB.out)⟩

end Go.Proofs.YtdhnfccgojgehaaDoor.QP

namespace Go.Proofs.YtdhnfccgojgehaaDoor
open Go.RowKit YtdhnfccgojgehaaDoorW.PrintWords YtdhnfccgojgehaaDoorW.PrintMore

/-- The document's answer: no size where there is an error. -/
def fit5 (f : Fm) (x : Vt) : Int × Int := if (fitR f x).2 = 0 then fitR f x else (0, (fitR f x).2)
end Go.Proofs.YtdhnfccgojgehaaDoor

namespace Go.Proofs.YtdhnfccgojgehaaDoor
open Go.RowKit YtdhnfccgojgehaaDoorW.PrintWords

end Go.Proofs.YtdhnfccgojgehaaDoor

namespace Go.Proofs.YtdhnfccgojgehaaDoor
open Go.RowKit

theorem BR.takeR {w : World} {ok : Nat → Prop} {A : Option Addr} {c k : Nat} {l : List UInt8} (h : BR w ok (.slice A l.length c) l) (hk : k ≤ l.length) : BR w ok (.slice A k c) (l.take k) := by
  obtain ⟨A', c', e, hc, hr⟩ := h
  injection e with e1 e2 e3
  subst e1 e3
  exact ⟨A, c, by rw [List.length_take, Nat.min_eq_left hk], by rw [List.length_take]; omega, by have h2 := hr.take hk; rw [List.length_take, Nat.min_eq_left hk]; simpa [bc, List.map_take] using h2⟩
theorem VtR.ltx {w : World} {ok : Nat → Prop} {v : Value} {x : Vt} (h : VtR w ok v x) : VtR w (fun i => ok i ∧ i < w.heap.size) v x := by
  obtain ⟨bv, sv, e, h1, h2, h3, A, c, e2, h4, h5, h6⟩ := h
  exact ⟨bv, sv, e, h1, h2.lt_, h3, A, c, e2, h4, h5, TL.lt_ VHd_lt h6⟩

local notation "Vz" => (#[Value.int IntKind.u64 0, Value.slice none 0 0, Value.slice none 0 0] : Array Value)
/-- What holds on the way: what stood before stands; the result's block, where it is made; a byte's block, where it is made. -/
def Ra (W0 w : World) (al : Option Nat) (lt : Option (Nat × UInt8)) : Prop :=
  Kp (W0.heap.size ≤ ·) W0 w ∧ (∀ V, al = some V → W0.heap.size ≤ V ∧ Blk w V 31 Vz) ∧ (∀ g c, lt = some (g, c) → W0.heap.size ≤ g ∧ g < w.heap.size ∧ BR w (· = g) (.slice (some ⟨g, 0, none⟩) 1 1) [c])
def okA (W0 : World) (al : Option Nat) (lt : Option (Nat × UInt8)) (j : Nat) : Prop := W0.heap.size ≤ j ∧ (∀ c, lt ≠ some (j, c)) ∧ al ≠ some j
def Rr (W0 w : World) (al : Option Nat) (lt : Option (Nat × UInt8)) (A : Option Addr) (n c : Nat) (l : List UInt8) : Prop :=
  Ra W0 w al lt ∧ Own w (okA W0 al lt) 5 1 (.slice A n c) n (bc l)
def Rc (W0 w : World) (al : Option Nat) (lt : Option (Nat × UInt8)) (v : Value) (x : Vt) : Prop :=
  Ra W0 w al lt ∧ VtR w (okA W0 al lt) v x
section
variable {W0 w w' : World} {al : Option Nat} {lt : Option (Nat × UInt8)} {S : Nat → Prop} {A : Option Addr} {n c : Nat} {l : List UInt8} {v : Value} {x : Vt}
theorem Ra.start (W0 : World) : Ra W0 W0.drew none none := by
  refine ⟨(Kp.refl (W0.heap.size ≤ ·) W0).drew, fun V e => ?_, fun g c e => ?_⟩
  · cases e
  · cases e
theorem Ra.kp (h : Ra W0 w al lt) : Kp (W0.heap.size ≤ ·) W0 w := h.1
theorem Ra.step (h : Ra W0 w al lt) (hk : Kp S w w') (hS : ∀ j, S j → okA W0 al lt j) : Ra W0 w' al lt := by
  obtain ⟨h1, h2, h3⟩ := h
  refine ⟨h1.then_ hk (fun j hj => .inl (hS j hj).1), fun V e => ?_, fun g c e => ?_⟩
  · obtain ⟨a, b⟩ := h2 V e
    exact ⟨a, b.kp hk (fun hs => (hS V hs).2.2 e)⟩
  · obtain ⟨a, b, d⟩ := h3 g c e
    exact ⟨a, Nat.lt_of_lt_of_le b hk.size, d.kp hk (fun j e2 hs => (hS j hs).2.1 c (by rw [e2]; exact e))⟩
theorem Ra.more (h : Ra W0 w none lt) : Ra W0 (w.alloc (.cells Vz 31)) (some w.heap.size) lt := by
  have h2 := h.step ((Kp.refl (fun _ => False) w).alloc (.cells Vz 31)) (fun _ h => h.elim)
  exact ⟨h2.1, fun V e => by injection e with e; subst e; exact ⟨h.1.size, Blk.new w _ _⟩, h2.2.2⟩
theorem Ra.byte (h : Ra W0 w al none) (c : UInt8) (cs : Array Value) (hcs : cs = (bc [c]).toArray) : Ra W0 (w.alloc (.cells cs 5)) al (some (w.heap.size, c)) := by
  have h2 := h.step ((Kp.refl (fun _ => False) w).alloc (.cells cs 5)) (fun _ h => h.elim)
  refine ⟨h2.1, h2.2.1, fun g c2 e => ?_⟩
  injection e with e
  injection e with e1 e2
  subst e1 e2
  exact ⟨h.1.size, by rw [World.size_alloc]; exact Nat.lt_succ_self _, BR.lit w _ [c] cs 1 rfl hcs⟩
theorem okA.fresh (h : Ra W0 w al lt) {j : Nat} (hj : w.heap.size ≤ j) : okA W0 al lt j := by
  refine ⟨Nat.le_trans h.1.size hj, fun c e => ?_, fun e => ?_⟩
  · have := (h.2.2 j c e).2.1
    omega
  · have := (h.2.1 j e).2.lt
    omega
theorem Ra.lit (h : Ra W0 w al lt) : Rr W0 (w.alloc (.cells #[] 5)) al lt (some ⟨w.heap.size, 0, none⟩) 0 0 [] := by
  refine ⟨h.step ((Kp.refl (fun _ => False) w).alloc (.cells #[] 5)) (fun _ h => h.elim), ?_⟩
  exact (Own.lit_ w 5 1 [] #[] 0 w.heap.size rfl rfl (Nat.le_refl _) (by decide)).mono (fun i _ hi => okA.fresh h hi)
theorem okA.small (h : Ra W0 w none lt) {j : Nat} (hj : j < w.heap.size) (hk : okA W0 none lt j) : okA W0 (some w.heap.size) lt j :=
  ⟨hk.1, hk.2.1, fun e => by injection e with e; omega⟩
theorem Rr.more (h : Rr W0 w none lt A n c l) : Rr W0 (w.alloc (.cells Vz 31)) (some w.heap.size) lt A n c l := by
  refine ⟨h.1.more, ?_⟩
  exact (h.2.mono (ok' := okA W0 (some w.heap.size) lt) (fun i hi hk => okA.small h.1 hi hk)).kp ((Kp.refl (fun _ => False) w).alloc _) (fun _ _ h => h)
theorem Rr.byte (h : Rr W0 w al none A n c l) (d : UInt8) (cs : Array Value) (hcs : cs = (bc [d]).toArray) : Rr W0 (w.alloc (.cells cs 5)) al (some (w.heap.size, d)) A n c l := by
  refine ⟨h.1.byte d cs hcs, ?_⟩
  exact (h.2.mono (ok' := okA W0 al (some (w.heap.size, d))) (fun i hi hk => ⟨hk.1, fun c e => by injection e with e; injection e with e _; omega, hk.2.2⟩)).kp ((Kp.refl (fun _ => False) w).alloc _) (fun _ _ h => h)
theorem Rr.app (h : Rr W0 w al lt A n c l) {A' : Option Addr} {k c' : Nat} {l' : List UInt8} (ho : Own w' (fun j => okA W0 al lt j ∨ w.heap.size ≤ j) 5 1 (.slice A' k c') k (bc l')) (hk : Kp (fun j => Value.ownBlock (.slice A n c) = some j) w w') : Rr W0 w' al lt A' k c' l' := by
  refine ⟨h.1.step hk (fun j hj => h.2.2 j hj), ho.mono (fun i _ hi => ?_)⟩
  rcases hi with hi | hi
  · exact hi
  · exact okA.fresh h.1 hi
theorem Rr.read (h : Rr W0 w al lt A n c l) (hn : l.length = n) : BR w (· < w.heap.size) (.slice A n c) l := by
  subst hn
  exact ((BR.of_own h.2.1 h.2.2).lt_).mono (fun _ hi => hi.2)
theorem Ra.one {d : UInt8} (h : Ra W0 w al (some (n, d))) : BR w (fun j => j = n) (.slice (some ⟨n, 0, none⟩) 1 1) [d] := (h.2.2 n d rfl).2.2
theorem Ra.call (h : Ra W0 w al lt) (hk : Kp (fun _ => False) w w') (hv : VtR w' (w.heap.size ≤ ·) v x) : Rc W0 w' al lt v x :=
  ⟨h.step hk (fun _ h => h.elim), hv.mono (fun j hj => okA.fresh h hj)⟩
theorem Rc.more (h : Rc W0 w none lt v x) : Rc W0 (w.alloc (.cells Vz 31)) (some w.heap.size) lt v x := by
  refine ⟨h.1.more, ?_⟩
  exact (h.2.ltx.mono (ok' := okA W0 (some w.heap.size) lt) (fun i hi => okA.small h.1 hi.2 hi.1)).kp ((Kp.refl (fun _ => False) w).alloc _) (fun _ _ h => h)
/-- The end of the region: the result's block holds what was read. -/
def Rend (W0 w : World) (V : Nat) (n : Int) (s1 s2 : Value) (x : Vt) : Prop :=
  Kp (fun _ => False) W0 w ∧ W0.heap.size ≤ V ∧ Blk w V 31 #[.int .u64 n, s1, s2] ∧ VtR w (fun _ => True) (.agg #[.int .u64 n, s1, s2]) x
theorem Rc.fin {V : Nat} {m : Int} {s1 s2 : Value} (h : Rc W0 w (some V) lt (.agg #[.int .u64 m, s1, s2]) x) : Rend W0 (((w.setCell ⟨V, 0, none⟩ (.int .u64 m)).setCell ⟨V, 1, none⟩ s1).setCell ⟨V, 2, none⟩ s2) V m s1 s2 x := by
  obtain ⟨hV, hB⟩ := h.1.2.1 V rfl
  have hk : Kp (fun j => j = V) w (((w.setCell ⟨V, 0, none⟩ (.int .u64 m)).setCell ⟨V, 1, none⟩ s1).setCell ⟨V, 2, none⟩ s2) := (Kp.refl (fun j => j = V) w).put3 (.inl rfl) _ _ _
  refine ⟨(h.1.1.then_ hk (fun j hj => .inl (hj ▸ hV))).mono (fun i hi hw => by omega), hV, ?_, ?_⟩
  · have := ((hB.set_ 0 (.int .u64 m)).set_ 1 s1).set_ 2 s2
    simpa using this
  · exact (h.2.kp hk (fun i hi e => hi.2.2 (by rw [e]))).mono (fun _ _ => trivial)
end

theorem u8_info6 : (Tryd.prog.info? 5).map (fun i => (i.zero, i.size, i.bytes)) = some (some (.int .u8 0), 1, 1) := by kernel_rfl
/-- append of bytes to bytes of the call's own: nothing but the own row's block changes. -/
theorem step_app_row {w : World} {ops : Array Oper} {o : Oper} {a : Act} {K : Act → World → Prop} {Q : Exit → Act → World → Prop} {E : Prop} (hgd : o.guard = none) (s x : Operand)
    (ho : o.op = .call { callee := .builtin .append, args := #[s, x], argTypes := #[25, 25] })
    {okr : Nat → Prop} (A : Option Addr) (n c : Nat) (l : List UInt8) (hs : a.eval s = .slice A n c) (hown : Own w okr 5 1 (.slice A n c) n (bc l))
    (ok : Nat → Prop) (Ax : Option Addr) (m cx : Nat) (lx : List UInt8) (hx : a.eval x = .slice Ax m cx) (hm : lx.length = m) (hr : BR w ok (.slice Ax m cx) lx)
    (k : Nat) (hk : n + m = k) (hk2 : k ≤ 140737488355328)
    (h : ∀ A' c' w', Own w' (fun j => okr j ∨ w.heap.size ≤ j) 5 1 (.slice A' k c') k (bc (l ++ lx)) → Kp (fun j => Value.ownBlock (.slice A n c) = some j) w w' → K (a.put o.dst (.slice A' k c')) w') :
    if Region.wanted o (yielded ops a.tmps) = true then Oper.wp Tryd.prog o a w K Q else E := by
  obtain ⟨i0, hi0, hz0, hz1, hz2⟩ := info_parts u8_info6
  obtain ⟨Ax', cx', e, hcx, hrd⟩ := hr
  injection e with e1 e2 e3
  subst e1 e3
  rw [hm] at hrd
  refine step_append_any w hgd s x _ ho 0 5 i0 _ 1 1 Tryd.underlying25 hi0 hz0 hz1 hz2 rfl (by omega) (.slice A n c) n (bc l) hs hown.1 ok Ax m cx (bc lx) hx hrd (bc_one _) (by simp only [maxLen]; omega) (by omega) (Nat.zero_le _) ?_
  intro v' w' h1 h2 h3
  rw [hk, ← bc_append] at h1
  have hk' : Kp (fun j => Value.ownBlock (.slice A n c) = some j) w w' := (Kp.refl _ _).grown h2 (fun j hj => .inl hj)
  have ho' : Own w' (fun j => okr j ∨ w.heap.size ≤ j) 5 1 v' k (bc (l ++ lx)) := ⟨h1, fun j hj => by
    rcases h3 with e | e
    · exact .inl (hown.2 j (e ▸ hj))
    · rw [e] at hj
      injection hj with hj
      exact .inr (Nat.le_of_eq hj)⟩
  obtain ⟨A', c', e, _⟩ := ho'.shape
  subst e
  exact h A' c' w' ho' hk'
end Go.Proofs.YtdhnfccgojgehaaDoor

namespace Go.Proofs.YtdhnfccgojgehaaDoor
open Go.RowKit

/-- Of a form that isn't open what is read of bytes plays no part for what stands behind. -/
theorem pfx_all {f : Fm} {b : List UInt8} {x : Vt} {o : Int} (hz : szF f ≤ 100000) (hb : b.length ≤ 140737488351232) (h : readAll true f b = (x, o, 0)) (ho : openR f = false) (more : List UInt8) :
    ∃ n : Nat, o = n ∧ n ≤ b.length ∧ readAll true f (b ++ more) = (x, (n : Int), 0) ∧ readAll false f (b.take n) = (x, (n : Int), 0) := by
  obtain ⟨hc, r, q, hr, ho2, _⟩ := all_ok h hz hb
  obtain ⟨u, hu, _, _, _, _, _, _, hp⟩ := read_got f hz (chk8_ok hc).2 b hb x r q hr
  have hp := hp ho
  have hlen : b.length = u.length + r.length := by rw [hu]; simp
  refine ⟨u.length, by rw [ho2]; congr 1; omega, by omega, ?_, ?_⟩
  · have e : readR f (b ++ more) = .got x (r ++ more) q := by rw [hu, List.append_assoc]; exact hp _
    unfold readAll
    rw [if_neg (by simp [hc]), e]
    show (if true = false ∧ 0 < (r ++ more).length then ((.mk ⟨0, []⟩ [], (((b ++ more).length - (r ++ more).length : Nat) : Int), 6) : Vt × Int × Int) else (x, (((b ++ more).length - (r ++ more).length : Nat) : Int), 0)) = _
    rw [if_neg (by simp)]
    congr 2
    simp only [List.length_append]
    omega
  · have e1 : b.take u.length = u := by rw [hu, List.take_left']; rfl
    have e : readR f u = .got x [] q := by have := hp []; rwa [List.append_nil] at this
    unfold readAll
    rw [if_neg (by simp [hc]), e1, e]
    show (if false = false ∧ 0 < ([] : List UInt8).length then ((.mk ⟨0, []⟩ [], ((u.length - ([] : List UInt8).length : Nat) : Int), 6) : Vt × Int × Int) else (x, ((u.length - ([] : List UInt8).length : Nat) : Int), 0)) = _
    rw [if_neg (by simp)]
    simp

set_option maxRecDepth 100000 in
set_option maxHeartbeats 6400000 in
theorem rprefix_walk (w : World) (tab : Tab06 w) (v : Value) (f : Fm) (hv : FmR w (· < w.heap.size) v f) (bv : Value) (b : List UInt8) (hb : BR w (· < w.heap.size) bv b) (_hl : b.length ≤ 140737488351232) (mv : Value) (m : List UInt8) (hm : BR w (· < w.heap.size) mv m) (_hml : m.length ≤ 140737488351232) :
    Calls Tryd.prog 6 #[v, bv, mv] w fun e w' => e = .returned (.bool true) ∧ Below w.heap.size w w' := by
  refine Calls.mono (R := fun e w' => e = .returned (.bool true) ∧ Kp (fun _ => False) w w') ?_ fun _ _ ⟨h1, h2⟩ => ⟨h1, h2.below⟩
  obtain ⟨Ab, cb, rfl, hbc, _⟩ := id hb
  obtain ⟨Am, cm, rfl, _, _⟩ := id hm
  obtain ⟨⟨k, s, lo, hi, st⟩, P⟩ := f
  obtain ⟨A0, c0, rfl⟩ : ∃ A c, v = fv ⟨k, s, lo, hi, st⟩ A P.length c := hv.fv_
  have ka : Kp (fun _ => False) w (w.alloc (.cells #[.int .i64 k, .int .i64 s, .int .i64 lo, .int .i64 hi, .int .i64 st, .slice A0 P.length c0] 24)) := (Kp.refl _ w).alloc _
  have HBF := Lib.hid (Blk.new w 24 #[.int .i64 k, .int .i64 s, .int .i64 lo, .int .i64 hi, .int .i64 st, .slice A0 P.length c0])
  have HKA := Lib.hid ka
  have HAL := Lib.hid (fun W (hk : Kp (fun _ => False) w W) => alive06_any W (tab.kp hk (fun h => h)))
  have HFV := Lib.hid (fun W (hk : Kp (fun _ => False) w W) => show FmR W (· < w.heap.size) (fv ⟨k, s, lo, hi, st⟩ A0 P.length c0) (.mk ⟨k, s, lo, hi, st⟩ P) from hv.kp hk (fun _ _ h => h))
  have HTB := Lib.hid (fun W (hk : Kp (fun _ => False) w W) => (show Tab06 W from tab.kp hk (fun h => h)))
  have HOK := Lib.hid (okk tab)
  have HGR := Lib.hid (fun W (hk : Kp (fun _ => False) w W) => great06_any (· < w.heap.size) (.mk ⟨k, s, lo, hi, st⟩ P) (fv ⟨k, s, lo, hi, st⟩ A0 P.length c0) _ b (· < w.heap.size) W (hv.kp hk (fun _ _ h => h)) (hb.kp hk (fun _ _ h => h)))
  have HCK := Lib.hid (fun W (hk : Kp (fun _ => False) w W) => check04_any (· < w.heap.size) (.mk ⟨k, s, lo, hi, st⟩ P) (fv ⟨k, s, lo, hi, st⟩ A0 P.length c0) W (hv.kp hk (fun _ _ h => h)))
  have HOP := Lib.hid (fun W (hk : Kp (fun _ => False) w W) => open04_any (· < w.heap.size) (.mk ⟨k, s, lo, hi, st⟩ P) (fv ⟨k, s, lo, hi, st⟩ A0 P.length c0) W (hv.kp hk (fun _ _ h => h)))
  have HBR := Lib.hid (fun W (hk : Kp (fun _ => False) w W) => hb.kp hk (fun _ _ h => h))
  have HMR := Lib.hid (fun W (hk : Kp (fun _ => False) w W) => hm.kp hk (fun _ _ h => h))
  have HBC := Lib.hid hbc
  clear ka hv tab hb hm hbc
  go_enter Tryd.func6, Tryd.ntmps6
  go_upto_region 1 with fail
  generalize w.alloc (.cells #[.int .i64 k, .int .i64 s, .int .i64 lo, .int .i64 hi, .int .i64 st, .slice A0 P.length c0] 24) = W0 at HBF HKA ⊢
  have HA0 := Lib.hid (HAL.out W0 HKA.out)
  go_wp2_with fail
  refine HA0.out.mono ?_
  rintro e w1 ⟨rfl, hk1⟩
  have HK1 := Lib.hid (HKA.out.then_ hk1 (fun _ h => h.elim))
  have HBF1 := Lib.hid (HBF.out.kp hk1 (fun h => h))
  have f0 := HBF1.out.cell 0
  have f1 := HBF1.out.cell 1
  have f2 := HBF1.out.cell 2
  have f3 := HBF1.out.cell 3
  have f4 := HBF1.out.cell 4
  have f5 := HBF1.out.cell 5
  simp at f0 f1 f2 f3 f4 f5
  clear hk1 HA0 HBF HKA
  have HG1 := Lib.hid (HGR.out w1 HK1.out)
  obtain ⟨gr, hgr⟩ : ∃ gr, (decide (500 < cntR 500 (.mk ⟨k, s, lo, hi, st⟩ P)) || decide (2000 < b.length)) = gr := ⟨_, rfl⟩
  rw [hgr] at HG1
  have HGE := Lib.hid hgr
  clear hgr
  cases gr with
  | true =>
    go_wp2_with fail
    refine HG1.out.mono ?_
    rintro e w2 ⟨rfl, hk⟩
    have HK2 := Lib.hid (HK1.out.then_ hk (fun _ h => h.elim))
    have HBF2 := Lib.hid (HBF1.out.kp hk (fun h => h))
    clear hk f0 f1 f2 f3 f4 f5 HG1 HBF1
    have g0 := HBF2.out.cell 0
    have g1 := HBF2.out.cell 1
    have g2 := HBF2.out.cell 2
    have g3 := HBF2.out.cell 3
    have g4 := HBF2.out.cell 4
    have g5 := HBF2.out.cell 5
    simp at g0 g1 g2 g3 g4 g5
    have HAZ := Lib.hid (HAL.out _ HK2.out)
    go_wp2_with fail
    refine HAZ.out.mono ?_
    rintro e w9 ⟨rfl, hk9⟩
    have HK9 := Lib.hid (HK2.out.then_ hk9 (fun _ h => h.elim))
    clear hk9
    go_wp2_with fail
    go_ret
    exact ⟨rfl, HK9.out⟩
  | false =>
    have hge := HGE.out
    rw [Bool.or_eq_false_iff, decide_eq_false_iff_not, decide_eq_false_iff_not] at hge
    have hsz := sz_ok hge.1
    have hbl : b.length ≤ 2000 := by omega
    clear hge
    go_wp2_with fail
    refine HG1.out.mono ?_
    rintro e w2 ⟨rfl, hk⟩
    have HK2 := Lib.hid (HK1.out.then_ hk (fun _ h => h.elim))
    have HBF2 := Lib.hid (HBF1.out.kp hk (fun h => h))
    clear hk f0 f1 f2 f3 f4 f5 HG1 HBF1
    have g0 := HBF2.out.cell 0
    have g1 := HBF2.out.cell 1
    have g2 := HBF2.out.cell 2
    have g3 := HBF2.out.cell 3
    have g4 := HBF2.out.cell 4
    have g5 := HBF2.out.cell 5
    simp at g0 g1 g2 g3 g4 g5
    obtain ⟨gm, hgm⟩ : ∃ gm, decide (500 < (m.length : Int)) = gm := ⟨_, rfl⟩
    have HME := Lib.hid hgm
    cases gm with
    | true =>
      have HAZ := Lib.hid (HAL.out _ HK2.out)
      go_wp2_with fail
      refine HAZ.out.mono ?_
      rintro e w9 ⟨rfl, hk9⟩
      have HK9 := Lib.hid (HK2.out.then_ hk9 (fun _ h => h.elim))
      clear hk9
      go_wp2_with fail
      go_ret
      exact ⟨rfl, HK9.out⟩
    | false =>
    have hml : m.length ≤ 500 := by
      have := HME.out
      rw [decide_eq_false_iff_not] at this
      omega
    have HC2 := Lib.hid (HCK.out w2 HK2.out)
    obtain ⟨ck, hck⟩ : ∃ ck, chk8 (.mk ⟨k, s, lo, hi, st⟩ P) = ck := ⟨_, rfl⟩
    rw [hck] at HC2
    have HCE := Lib.hid hck
    clear hck
    by_cases hc0 : ck = 0
    rotate_left
    · have hne : (ck != 0) = true := by simpa using hc0
      clear hc0
      go_wp2_with fail
      refine HC2.out.mono ?_
      rintro e w3 ⟨rfl, hk⟩
      have HK3 := Lib.hid (HK2.out.then_ hk (fun _ h => h.elim))
      have HBF3 := Lib.hid (HBF2.out.kp hk (fun h => h))
      clear hk g0 g1 g2 g3 g4 g5 HC2 HBF2
      have q0 := HBF3.out.cell 0
      have q1 := HBF3.out.cell 1
      have q2 := HBF3.out.cell 2
      have q3 := HBF3.out.cell 3
      have q4 := HBF3.out.cell 4
      have q5 := HBF3.out.cell 5
      simp at q0 q1 q2 q3 q4 q5
      have HAZ := Lib.hid (HAL.out _ HK3.out)
      go_wp2_with fail
      refine HAZ.out.mono ?_
      rintro e w9 ⟨rfl, hk9⟩
      have HK9 := Lib.hid (HK3.out.then_ hk9 (fun _ h => h.elim))
      clear hk9
      go_wp2_with fail
      go_ret
      exact ⟨rfl, HK9.out⟩
    have hne : (ck != 0) = false := by simp [hc0]
    have HC0 := Lib.hid (HCE.out.trans hc0)
    clear hc0
    go_wp2_with fail
    refine HC2.out.mono ?_
    rintro e w3 ⟨rfl, hk⟩
    have HK3 := Lib.hid (HK2.out.then_ hk (fun _ h => h.elim))
    have HBF3 := Lib.hid (HBF2.out.kp hk (fun h => h))
    clear hk g0 g1 g2 g3 g4 g5 HC2 HBF2
    have q0 := HBF3.out.cell 0
    have q1 := HBF3.out.cell 1
    have q2 := HBF3.out.cell 2
    have q3 := HBF3.out.cell 3
    have q4 := HBF3.out.cell 4
    have q5 := HBF3.out.cell 5
    simp at q0 q1 q2 q3 q4 q5
    have HO3 := Lib.hid (HOP.out w3 HK3.out)
    obtain ⟨op, hop⟩ : ∃ op, openR (.mk ⟨k, s, lo, hi, st⟩ P) = op := ⟨_, rfl⟩
    rw [hop] at HO3
    have HOE := Lib.hid hop
    clear hop
    cases op with
    | true =>
      go_wp2_with fail
      refine HO3.out.mono ?_
      rintro e w4 ⟨rfl, hk⟩
      have HK4 := Lib.hid (HK3.out.then_ hk (fun _ h => h.elim))
      have HBF4 := Lib.hid (HBF3.out.kp hk (fun h => h))
      clear hk q0 q1 q2 q3 q4 q5 HO3 HBF3
      have g0 := HBF4.out.cell 0
      have g1 := HBF4.out.cell 1
      have g2 := HBF4.out.cell 2
      have g3 := HBF4.out.cell 3
      have g4 := HBF4.out.cell 4
      have g5 := HBF4.out.cell 5
      simp at g0 g1 g2 g3 g4 g5
      have HAZ := Lib.hid (HAL.out _ HK4.out)
      go_wp2_with fail
      refine HAZ.out.mono ?_
      rintro e w9 ⟨rfl, hk9⟩
      have HK9 := Lib.hid (HK4.out.then_ hk9 (fun _ h => h.elim))
      clear hk9
      go_wp2_with fail
      go_ret
      exact ⟨rfl, HK9.out⟩
    | false =>
    go_wp2_with fail
    refine HO3.out.mono ?_
    rintro e w4 ⟨rfl, hk⟩
    have HK4 := Lib.hid (HK3.out.then_ hk (fun _ h => h.elim))
    have HBF4 := Lib.hid (HBF3.out.kp hk (fun h => h))
    clear hk q0 q1 q2 q3 q4 q5 HO3 HBF3
    have g0 := HBF4.out.cell 0
    have g1 := HBF4.out.cell 1
    have g2 := HBF4.out.cell 2
    have g3 := HBF4.out.cell 3
    have g4 := HBF4.out.cell 4
    have g5 := HBF4.out.cell 5
    simp at g0 g1 g2 g3 g4 g5
    obtain ⟨⟨x, o, er⟩, hRA⟩ : ∃ RA, readAll true (.mk ⟨k, s, lo, hi, st⟩ P) b = RA := ⟨_, rfl⟩
    obtain ⟨n5, l5, l6, rfl⟩ := vt_parts x
    have HR := Lib.hid (prefix_at (· < w.heap.size) (.mk ⟨k, s, lo, hi, st⟩ P) (fv ⟨k, s, lo, hi, st⟩ A0 P.length c0) (.slice Ab b.length cb) b 0 w4 n5 l5 l6 o er hRA hsz (HFV.out w4 HK4.out) (HBR.out w4 HK4.out) (fun i hi => Nat.lt_of_lt_of_le hi HK4.out.size) HOK.out (by omega) (by omega) (by omega) (HTB.out w4 HK4.out))
    simp only [Int.zero_add] at HR
    by_cases her : er = 0
    rotate_left
    · have hner : (er != 0) = true := by simpa using her
      clear her hRA
      go_wp2_with (go_at_call 19; refine HR.out.mono ?_; rintro e w5 ⟨A1, c1, A2, c2, rfl, _, hk5⟩)
      go_ret
      exact ⟨rfl, (HK4.out.then_ hk5 (fun _ h => h.elim)).alloc _⟩
    subst her
    obtain ⟨n, rfl, hn, hR1, hR2⟩ := pfx_all hsz (by omega) hRA HOE.out m
    have HR1 := Lib.hid hR1
    have HR2 := Lib.hid hR2
    clear hRA hR1 hR2
    go_upto_region 6 with (go_at_call 19; refine HR.out.mono ?_; rintro e w5 ⟨A1, c1, A2, c2, rfl, hv, hk⟩)
    have hk6 := hk.then_ ((Kp.refl (fun _ => False) w5).alloc (.cells #[.int .u64 n5, .slice A1 l5.length c1, .slice A2 l6.length c2] 31)) (fun _ h => h.elim)
    have HV6 := Lib.hid ((hv.kp ((Kp.refl (fun _ => False) w5).alloc (.cells #[.int .u64 n5, .slice A1 l5.length c1, .slice A2 l6.length c2] 31)) (fun _ _ h => h)).ltx)
    have HBV := Lib.hid (Blk.new w5 31 #[.int .u64 n5, .slice A1 l5.length c1, .slice A2 l6.length c2])
    generalize w5.heap.size = V1 at HBV ⊢
    generalize w5.alloc (.cells #[.int .u64 n5, .slice A1 l5.length c1, .slice A2 l6.length c2] 31) = W6 at hk6 HV6 HBV ⊢
    have HK6 := Lib.hid (HK4.out.then_ hk6 (fun _ h => h.elim))
    have HBF6 := Lib.hid (HBF4.out.kp hk6 (fun h => h))
    clear hv hk hk6 HR HBF4 g0 g1 g2 g3 g4 g5
    have HSE := Lib.hid (fun Wx (hk : Kp (fun _ => False) W6 Wx) => show (fun w' : World => w'.cell? ⟨w.heap.size, 0, none⟩ = some (.int .i64 k) ∧ w'.cell? ⟨w.heap.size, 1, none⟩ = some (.int .i64 s) ∧ w'.cell? ⟨w.heap.size, 2, none⟩ = some (.int .i64 lo) ∧ w'.cell? ⟨w.heap.size, 3, none⟩ = some (.int .i64 hi) ∧ w'.cell? ⟨w.heap.size, 4, none⟩ = some (.int .i64 st) ∧ w'.cell? ⟨w.heap.size, 5, none⟩ = some (.slice A0 P.length c0)) Wx from by have hb := HBF6.out.kp hk (fun h => h); exact ⟨hb.cell 0, hb.cell 1, hb.cell 2, hb.cell 3, hb.cell 4, hb.cell 5⟩)
    have HSK := Lib.hid (fun Wx (hk : Kp (W6.heap.size ≤ ·) W6 Wx) => HSE.out Wx (hk.mono (fun i hi h => by omega)))
    have HKX := Lib.hid (fun Wx (hk : Kp (W6.heap.size ≤ ·) W6 Wx) => HK6.out.then_ (hk.mono (T := fun _ => False) (fun i hi h => by omega)) (fun _ h => h.elim))
    obtain ⟨bm, hbm⟩ : ∃ bm, bm = b ++ m := ⟨_, rfl⟩
    have hbml : bm.length ≤ 2500 := by rw [hbm, List.length_append]; omega
    have HBL := Lib.hid (show b.length + m.length = bm.length by rw [hbm, List.length_append])
    have HBM := Lib.hid hbm
    rw [← hbm] at HR1
    clear hbm
    have HPX := Lib.hid (fun Wx A c (hk : Kp (W6.heap.size ≤ ·) W6 Wx) (hr : BR Wx (· < Wx.heap.size) (.slice A bm.length c) bm) => prefix_at (· < Wx.heap.size) (.mk ⟨k, s, lo, hi, st⟩ P) (fv ⟨k, s, lo, hi, st⟩ A0 P.length c0) (.slice A bm.length c) bm 0 Wx n5 l5 l6 n 0 HR1.out hsz ((HFV.out Wx (HKX.out Wx hk)).mono (fun i hi => Nat.lt_of_lt_of_le hi (HKX.out Wx hk).size)) hr (fun i hi => hi) (Nat.lt_of_lt_of_le HOK.out (HKX.out Wx hk).size) (by omega) (by omega) (by omega) (HTB.out Wx (HKX.out Wx hk)))
    simp only [Int.zero_add] at HPX
    go_cut [10, 11, 12] (fun p c d wx => ∃ V A3 c3 A4 c4, p = .pointer (some ⟨V, 0, none⟩) ∧ c = .int .i64 (n : Int) ∧ d = .int .i64 0 ∧ Rend W6 wx V n5 (.slice A3 l5.length c3) (.slice A4 l6.length c4) (.mk ⟨n5, l5⟩ l6))
    case first =>
      refine wp_region_noPanic ?_
      have HS0 := Lib.hid (Ra.start W6)
      refine wp_region_held_drew (S := (fun w' : World => w'.cell? ⟨w.heap.size, 0, none⟩ = some (.int .i64 k) ∧ w'.cell? ⟨w.heap.size, 1, none⟩ = some (.int .i64 s) ∧ w'.cell? ⟨w.heap.size, 2, none⟩ = some (.int .i64 lo) ∧ w'.cell? ⟨w.heap.size, 3, none⟩ = some (.int .i64 hi) ∧ w'.cell? ⟨w.heap.size, 4, none⟩ = some (.int .i64 st) ∧ w'.cell? ⟨w.heap.size, 5, none⟩ = some (.slice A0 P.length c0))) (by kernel_rfl) (HSK.out _ HS0.out.kp) (fun hHeld => ?_)
      generalize W6.drew = y0 at HS0 hHeld ⊢
      refine wpAnyH_take (i := 0) (v := ?vx0) (by simp only [List.getElem?_toArray, List.getElem?_cons_zero]; rfl) (by kernel_rfl) (by kernel_rfl) (by kernel_rfl) (fun _ _ _ h => h) (Or.inl ⟨by rfl, ?hyx0⟩) (by assumption) ?restx0
      case hyx0 => (intro w hSw; (try dsimp only at hSw); go_simp; (try with_reducible rfl))
      try simp only [Act.put, List.setIfInBounds_toArray, List.set_cons_zero, List.set_cons_succ]
      refine wpAnyH_take (i := 2) (v := ?vx2) (by simp only [List.getElem?_toArray, List.getElem?_cons_succ, List.getElem?_cons_zero]; rfl) (by kernel_rfl) (by kernel_rfl) (by kernel_rfl) (fun _ _ _ h => h) (Or.inl ⟨by rfl, ?hyx2⟩) (by assumption) ?restx2
      case hyx2 => (intro w hSw; (try dsimp only at hSw); go_simp; (try with_reducible rfl))
      try simp only [Act.put, List.setIfInBounds_toArray, List.set_cons_zero, List.set_cons_succ]
      refine wpAnyH_take (i := 4) (v := ?vx4) (by simp only [List.getElem?_toArray, List.getElem?_cons_succ, List.getElem?_cons_zero]; rfl) (by kernel_rfl) (by kernel_rfl) (by kernel_rfl) (fun _ _ _ h => h) (Or.inl ⟨by rfl, ?hyx4⟩) (by assumption) ?restx4
      case hyx4 => (intro w hSw; (try dsimp only at hSw); go_simp; (try with_reducible rfl))
      try simp only [Act.put, List.setIfInBounds_toArray, List.set_cons_zero, List.set_cons_succ]
      refine wpAnyH_ready (rs := [1, 11]) (by kernel_rfl) (by simp) ?_
      refine (AllReadyH.cons (o := _) rfl (fun K hK => ?_) (AllReadyH.cons (o := _) rfl (fun K hK => ?_) AllReadyH.nil))
      · go_simp
        have HS1 := Lib.hid (Ra.lit HS0.out)
        generalize y0.alloc (.cells #[] 5) = y1 at HS1 ⊢
        generalize y0.heap.size = gA at HS1 ⊢
        clear HS0
        try dsimp only
        refine hK.out _ _ (HSK.out _ HS1.out.1.kp) (fun hHeld => ?_)
        clear hK K
        refine wpAnyH_ready (rs := [3, 11]) (by kernel_rfl) (by simp) ?_
        refine (AllReadyH.cons (o := _) rfl (fun K hK => ?_) (AllReadyH.cons (o := _) rfl (fun K hK => ?_) AllReadyH.nil))
        · refine step_app_row rfl (.tmp 49) (.tmp 50) rfl _ _ _ [] (by simp [Act.eval]) HS1.out.2 (· < w.heap.size) Ab b.length cb b (by simp [Act.eval]) rfl (HBR.out y1 (HKX.out y1 HS1.out.1.kp)) (b.length) (by simp) (by omega) ?_
          intro A5 c5 y2 ho hk
          have HS2 := Lib.hid (Rr.app HS1.out ho hk)
          rw [List.nil_append] at HS2
          clear ho hk
          try simp only [Act.put, List.setIfInBounds_toArray, List.set_cons_zero, List.set_cons_succ]
          clear HS1
          try dsimp only
          refine hK.out _ _ (HSK.out _ HS2.out.1.kp) (fun hHeld => ?_)
          clear hK K
          refine wpAnyH_ready (rs := [5, 11]) (by kernel_rfl) (by simp) ?_
          refine (AllReadyH.cons (o := _) rfl (fun K hK => ?_) (AllReadyH.cons (o := _) rfl (fun K hK => ?_) AllReadyH.nil))
          · refine step_app_row rfl (.tmp 51) (.tmp 52) rfl A5 b.length c5 b (by simp [Act.eval]) HS2.out.2 (· < w.heap.size) Am m.length cm m (by simp [Act.eval]) rfl (HMR.out y2 (HKX.out y2 HS2.out.1.kp)) (bm.length) (HBL.out) (by omega) ?_
            intro A6 c6 y3 ho hk
            have HS3 := Lib.hid (Rr.app HS2.out ho hk)
            rw [← HBM.out] at HS3
            clear ho hk
            try simp only [Act.put, List.setIfInBounds_toArray, List.set_cons_zero, List.set_cons_succ]
            clear HS2
            try dsimp only
            refine hK.out _ _ (HSK.out _ HS3.out.1.kp) (fun hHeld => ?_)
            clear hK K
            refine wpAnyH_ready (rs := [6, 11]) (by kernel_rfl) (by simp) ?_
            refine (AllReadyH.cons (o := _) rfl (fun K hK => ?_) (AllReadyH.cons (o := _) rfl (fun K hK => ?_) AllReadyH.nil))
            · go_simp
              refine (HPX.out y3 A6 c6 HS3.out.1.kp (Rr.read HS3.out rfl)).mono ?_
              rintro e y4 ⟨A3, c3, A4, c4, rfl, hv, hk⟩
              have HS4 := Lib.hid (Ra.call HS3.out.1 hk hv)
              clear hv hk
              clear HS3
              try dsimp only
              refine hK.out _ _ (HSK.out _ HS4.out.1.kp) (fun hHeld => ?_)
              clear hK K
              refine wpAnyH_take (i := 7) (v := ?vxl0_7) (by simp only [List.getElem?_toArray, List.getElem?_cons_succ, List.getElem?_cons_zero]; rfl) (by kernel_rfl) (by kernel_rfl) (by kernel_rfl) (fun _ _ _ h => h) (Or.inl ⟨by rfl, ?hyxl0_7⟩) (by assumption) ?restxl0_7
              case hyxl0_7 => (intro w hSw; (try dsimp only at hSw); go_simp; (try with_reducible rfl))
              try simp only [Act.put, List.setIfInBounds_toArray, List.set_cons_zero, List.set_cons_succ]
              refine wpAnyH_take (i := 8) (v := ?vxl0_8) (by simp only [List.getElem?_toArray, List.getElem?_cons_succ, List.getElem?_cons_zero]; rfl) (by kernel_rfl) (by kernel_rfl) (by kernel_rfl) (fun _ _ _ h => h) (Or.inl ⟨by rfl, ?hyxl0_8⟩) (by assumption) ?restxl0_8
              case hyxl0_8 => (intro w hSw; (try dsimp only at hSw); go_simp; (try with_reducible rfl))
              try simp only [Act.put, List.setIfInBounds_toArray, List.set_cons_zero, List.set_cons_succ]
              refine wpAnyH_take (i := 9) (v := ?vxl0_9) (by simp only [List.getElem?_toArray, List.getElem?_cons_succ, List.getElem?_cons_zero]; rfl) (by kernel_rfl) (by kernel_rfl) (by kernel_rfl) (fun _ _ _ h => h) (Or.inl ⟨by rfl, ?hyxl0_9⟩) (by assumption) ?restxl0_9
              case hyxl0_9 => (intro w hSw; (try dsimp only at hSw); go_simp; (try with_reducible rfl))
              try simp only [Act.put, List.setIfInBounds_toArray, List.set_cons_zero, List.set_cons_succ]
              refine wpAnyH_take (i := 10) (v := ?vxl0_10) (by simp only [List.getElem?_toArray, List.getElem?_cons_succ, List.getElem?_cons_zero]; rfl) (by kernel_rfl) (by kernel_rfl) (by kernel_rfl) (fun _ _ _ h => h) (Or.inl ⟨by rfl, ?hyxl0_10⟩) (by assumption) ?restxl0_10
              case hyxl0_10 => (intro w hSw; (try dsimp only at hSw); go_simp; (try with_reducible rfl))
              try simp only [Act.put, List.setIfInBounds_toArray, List.set_cons_zero, List.set_cons_succ]
              refine wpAnyH_ready (rs := [11]) (by kernel_rfl) (by simp) ?_
              refine (AllReadyH.cons (o := _) rfl (fun K hK => ?_) AllReadyH.nil)
              go_simp
              have HS5 := Lib.hid (Rc.more HS4.out)
              generalize y4.alloc (.cells #[.int .u64 0, .slice none 0 0, .slice none 0 0] 31) = y5 at HS5 ⊢
              generalize y4.heap.size = V2 at HS5 ⊢
              clear HS4
              try dsimp only
              refine hK.out _ _ (HSK.out _ HS5.out.1.kp) (fun hHeld => ?_)
              clear hK K
              refine wpAnyH_ready (rs := [12]) (by kernel_rfl) (by simp) ?_
              refine (AllReadyH.cons (o := _) rfl (fun K hK => ?_) AllReadyH.nil)
              have hzb := (HS5.out.1.2.1 V2 rfl).2
              have z0 := hzb.cell 0
              have z1 := hzb.cell 1
              have z2 := hzb.cell 2
              simp at z0 z1 z2
              have q0 := hzb.frozen 0
              have q1 := hzb.frozen 1
              have q2 := hzb.frozen 2
              clear hzb
              have HE := Lib.hid (Rc.fin HS5.out)
              go_simp
              try dsimp only
              refine hK.out _ _ (HSE.out _ (HE.out.1)) (fun hHeld => ?_)
              clear hK K z0 z1 z2 q0 q1 q2
              refine wpAnyH_take (i := 13) (v := ?vxa1_13) (by simp only [List.getElem?_toArray, List.getElem?_cons_succ, List.getElem?_cons_zero]; rfl) (by kernel_rfl) (by kernel_rfl) (by kernel_rfl) (fun _ _ _ h => h) (Or.inl ⟨by rfl, ?hyxa1_13⟩) (by assumption) ?restxa1_13
              case hyxa1_13 => (intro w hSw; (try dsimp only at hSw); go_simp; (try with_reducible rfl))
              try simp only [Act.put, List.setIfInBounds_toArray, List.set_cons_zero, List.set_cons_succ]
              refine wpAnyH_take (i := 14) (v := ?vxa1_14) (by simp only [List.getElem?_toArray, List.getElem?_cons_succ, List.getElem?_cons_zero]; rfl) (by kernel_rfl) (by kernel_rfl) (by kernel_rfl) (fun _ _ _ h => h) (Or.inl ⟨by rfl, ?hyxa1_14⟩) (by assumption) ?restxa1_14
              case hyxa1_14 => (intro w hSw; (try dsimp only at hSw); go_simp; (try with_reducible rfl))
              try simp only [Act.put, List.setIfInBounds_toArray, List.set_cons_zero, List.set_cons_succ]
              refine wpAnyH_done (by kernel_rfl) ?_ _
              refine NoPanic.normal ?_
              go_wp2_with fail
              go_meet
              exact ⟨V2, A3, c3, A4, c4, rfl, rfl, rfl, HE.out⟩
            · go_simp
              have HS4 := Lib.hid (Rr.more HS3.out)
              generalize y3.alloc (.cells #[.int .u64 0, .slice none 0 0, .slice none 0 0] 31) = y4 at HS4 ⊢
              generalize y3.heap.size = V2 at HS4 ⊢
              clear HS3
              try dsimp only
              refine hK.out _ _ (HSK.out _ HS4.out.1.kp) (fun hHeld => ?_)
              clear hK K
              refine wpAnyH_ready (rs := [6]) (by kernel_rfl) (by simp) ?_
              refine (AllReadyH.cons (o := _) rfl (fun K hK => ?_) AllReadyH.nil)
              go_simp
              refine (HPX.out y4 A6 c6 HS4.out.1.kp (Rr.read HS4.out rfl)).mono ?_
              rintro e y5 ⟨A3, c3, A4, c4, rfl, hv, hk⟩
              have HS5 := Lib.hid (Ra.call HS4.out.1 hk hv)
              clear hv hk
              clear HS4
              try dsimp only
              refine hK.out _ _ (HSK.out _ HS5.out.1.kp) (fun hHeld => ?_)
              clear hK K
              refine wpAnyH_take (i := 7) (v := ?vxl2_7) (by simp only [List.getElem?_toArray, List.getElem?_cons_succ, List.getElem?_cons_zero]; rfl) (by kernel_rfl) (by kernel_rfl) (by kernel_rfl) (fun _ _ _ h => h) (Or.inl ⟨by rfl, ?hyxl2_7⟩) (by assumption) ?restxl2_7
              case hyxl2_7 => (intro w hSw; (try dsimp only at hSw); go_simp; (try with_reducible rfl))
              try simp only [Act.put, List.setIfInBounds_toArray, List.set_cons_zero, List.set_cons_succ]
              refine wpAnyH_take (i := 8) (v := ?vxl2_8) (by simp only [List.getElem?_toArray, List.getElem?_cons_succ, List.getElem?_cons_zero]; rfl) (by kernel_rfl) (by kernel_rfl) (by kernel_rfl) (fun _ _ _ h => h) (Or.inl ⟨by rfl, ?hyxl2_8⟩) (by assumption) ?restxl2_8
              case hyxl2_8 => (intro w hSw; (try dsimp only at hSw); go_simp; (try with_reducible rfl))
              try simp only [Act.put, List.setIfInBounds_toArray, List.set_cons_zero, List.set_cons_succ]
              refine wpAnyH_take (i := 9) (v := ?vxl2_9) (by simp only [List.getElem?_toArray, List.getElem?_cons_succ, List.getElem?_cons_zero]; rfl) (by kernel_rfl) (by kernel_rfl) (by kernel_rfl) (fun _ _ _ h => h) (Or.inl ⟨by rfl, ?hyxl2_9⟩) (by assumption) ?restxl2_9
              case hyxl2_9 => (intro w hSw; (try dsimp only at hSw); go_simp; (try with_reducible rfl))
              try simp only [Act.put, List.setIfInBounds_toArray, List.set_cons_zero, List.set_cons_succ]
              refine wpAnyH_take (i := 10) (v := ?vxl2_10) (by simp only [List.getElem?_toArray, List.getElem?_cons_succ, List.getElem?_cons_zero]; rfl) (by kernel_rfl) (by kernel_rfl) (by kernel_rfl) (fun _ _ _ h => h) (Or.inl ⟨by rfl, ?hyxl2_10⟩) (by assumption) ?restxl2_10
              case hyxl2_10 => (intro w hSw; (try dsimp only at hSw); go_simp; (try with_reducible rfl))
              try simp only [Act.put, List.setIfInBounds_toArray, List.set_cons_zero, List.set_cons_succ]
              refine wpAnyH_ready (rs := [12]) (by kernel_rfl) (by simp) ?_
              refine (AllReadyH.cons (o := _) rfl (fun K hK => ?_) AllReadyH.nil)
              have hzb := (HS5.out.1.2.1 V2 rfl).2
              have z0 := hzb.cell 0
              have z1 := hzb.cell 1
              have z2 := hzb.cell 2
              simp at z0 z1 z2
              have q0 := hzb.frozen 0
              have q1 := hzb.frozen 1
              have q2 := hzb.frozen 2
              clear hzb
              have HE := Lib.hid (Rc.fin HS5.out)
              go_simp
              try dsimp only
              refine hK.out _ _ (HSE.out _ (HE.out.1)) (fun hHeld => ?_)
              clear hK K z0 z1 z2 q0 q1 q2
              refine wpAnyH_take (i := 13) (v := ?vxa3_13) (by simp only [List.getElem?_toArray, List.getElem?_cons_succ, List.getElem?_cons_zero]; rfl) (by kernel_rfl) (by kernel_rfl) (by kernel_rfl) (fun _ _ _ h => h) (Or.inl ⟨by rfl, ?hyxa3_13⟩) (by assumption) ?restxa3_13
              case hyxa3_13 => (intro w hSw; (try dsimp only at hSw); go_simp; (try with_reducible rfl))
              try simp only [Act.put, List.setIfInBounds_toArray, List.set_cons_zero, List.set_cons_succ]
              refine wpAnyH_take (i := 14) (v := ?vxa3_14) (by simp only [List.getElem?_toArray, List.getElem?_cons_succ, List.getElem?_cons_zero]; rfl) (by kernel_rfl) (by kernel_rfl) (by kernel_rfl) (fun _ _ _ h => h) (Or.inl ⟨by rfl, ?hyxa3_14⟩) (by assumption) ?restxa3_14
              case hyxa3_14 => (intro w hSw; (try dsimp only at hSw); go_simp; (try with_reducible rfl))
              try simp only [Act.put, List.setIfInBounds_toArray, List.set_cons_zero, List.set_cons_succ]
              refine wpAnyH_done (by kernel_rfl) ?_ _
              refine NoPanic.normal ?_
              go_wp2_with fail
              go_meet
              exact ⟨V2, A3, c3, A4, c4, rfl, rfl, rfl, HE.out⟩
          · go_simp
            have HS3 := Lib.hid (Rr.more HS2.out)
            generalize y2.alloc (.cells #[.int .u64 0, .slice none 0 0, .slice none 0 0] 31) = y3 at HS3 ⊢
            generalize y2.heap.size = V2 at HS3 ⊢
            clear HS2
            try dsimp only
            refine hK.out _ _ (HSK.out _ HS3.out.1.kp) (fun hHeld => ?_)
            clear hK K
            refine wpAnyH_ready (rs := [5]) (by kernel_rfl) (by simp) ?_
            refine (AllReadyH.cons (o := _) rfl (fun K hK => ?_) AllReadyH.nil)
            refine step_app_row rfl (.tmp 51) (.tmp 52) rfl A5 b.length c5 b (by simp [Act.eval]) HS3.out.2 (· < w.heap.size) Am m.length cm m (by simp [Act.eval]) rfl (HMR.out y3 (HKX.out y3 HS3.out.1.kp)) (bm.length) (HBL.out) (by omega) ?_
            intro A6 c6 y4 ho hk
            have HS4 := Lib.hid (Rr.app HS3.out ho hk)
            rw [← HBM.out] at HS4
            clear ho hk
            try simp only [Act.put, List.setIfInBounds_toArray, List.set_cons_zero, List.set_cons_succ]
            clear HS3
            try dsimp only
            refine hK.out _ _ (HSK.out _ HS4.out.1.kp) (fun hHeld => ?_)
            clear hK K
            refine wpAnyH_ready (rs := [6]) (by kernel_rfl) (by simp) ?_
            refine (AllReadyH.cons (o := _) rfl (fun K hK => ?_) AllReadyH.nil)
            go_simp
            refine (HPX.out y4 A6 c6 HS4.out.1.kp (Rr.read HS4.out rfl)).mono ?_
            rintro e y5 ⟨A3, c3, A4, c4, rfl, hv, hk⟩
            have HS5 := Lib.hid (Ra.call HS4.out.1 hk hv)
            clear hv hk
            clear HS4
            try dsimp only
            refine hK.out _ _ (HSK.out _ HS5.out.1.kp) (fun hHeld => ?_)
            clear hK K
            refine wpAnyH_take (i := 7) (v := ?vxl4_7) (by simp only [List.getElem?_toArray, List.getElem?_cons_succ, List.getElem?_cons_zero]; rfl) (by kernel_rfl) (by kernel_rfl) (by kernel_rfl) (fun _ _ _ h => h) (Or.inl ⟨by rfl, ?hyxl4_7⟩) (by assumption) ?restxl4_7
            case hyxl4_7 => (intro w hSw; (try dsimp only at hSw); go_simp; (try with_reducible rfl))
            try simp only [Act.put, List.setIfInBounds_toArray, List.set_cons_zero, List.set_cons_succ]
            refine wpAnyH_take (i := 8) (v := ?vxl4_8) (by simp only [List.getElem?_toArray, List.getElem?_cons_succ, List.getElem?_cons_zero]; rfl) (by kernel_rfl) (by kernel_rfl) (by kernel_rfl) (fun _ _ _ h => h) (Or.inl ⟨by rfl, ?hyxl4_8⟩) (by assumption) ?restxl4_8
            case hyxl4_8 => (intro w hSw; (try dsimp only at hSw); go_simp; (try with_reducible rfl))
            try simp only [Act.put, List.setIfInBounds_toArray, List.set_cons_zero, List.set_cons_succ]
            refine wpAnyH_take (i := 9) (v := ?vxl4_9) (by simp only [List.getElem?_toArray, List.getElem?_cons_succ, List.getElem?_cons_zero]; rfl) (by kernel_rfl) (by kernel_rfl) (by kernel_rfl) (fun _ _ _ h => h) (Or.inl ⟨by rfl, ?hyxl4_9⟩) (by assumption) ?restxl4_9
            case hyxl4_9 => (intro w hSw; (try dsimp only at hSw); go_simp; (try with_reducible rfl))
            try simp only [Act.put, List.setIfInBounds_toArray, List.set_cons_zero, List.set_cons_succ]
            refine wpAnyH_take (i := 10) (v := ?vxl4_10) (by simp only [List.getElem?_toArray, List.getElem?_cons_succ, List.getElem?_cons_zero]; rfl) (by kernel_rfl) (by kernel_rfl) (by kernel_rfl) (fun _ _ _ h => h) (Or.inl ⟨by rfl, ?hyxl4_10⟩) (by assumption) ?restxl4_10
            case hyxl4_10 => (intro w hSw; (try dsimp only at hSw); go_simp; (try with_reducible rfl))
            try simp only [Act.put, List.setIfInBounds_toArray, List.set_cons_zero, List.set_cons_succ]
            refine wpAnyH_ready (rs := [12]) (by kernel_rfl) (by simp) ?_
            refine (AllReadyH.cons (o := _) rfl (fun K hK => ?_) AllReadyH.nil)
            have hzb := (HS5.out.1.2.1 V2 rfl).2
            have z0 := hzb.cell 0
            have z1 := hzb.cell 1
            have z2 := hzb.cell 2
            simp at z0 z1 z2
            have q0 := hzb.frozen 0
            have q1 := hzb.frozen 1
            have q2 := hzb.frozen 2
            clear hzb
            have HE := Lib.hid (Rc.fin HS5.out)
            go_simp
            try dsimp only
            refine hK.out _ _ (HSE.out _ (HE.out.1)) (fun hHeld => ?_)
            clear hK K z0 z1 z2 q0 q1 q2
            refine wpAnyH_take (i := 13) (v := ?vxa5_13) (by simp only [List.getElem?_toArray, List.getElem?_cons_succ, List.getElem?_cons_zero]; rfl) (by kernel_rfl) (by kernel_rfl) (by kernel_rfl) (fun _ _ _ h => h) (Or.inl ⟨by rfl, ?hyxa5_13⟩) (by assumption) ?restxa5_13
            case hyxa5_13 => (intro w hSw; (try dsimp only at hSw); go_simp; (try with_reducible rfl))
            try simp only [Act.put, List.setIfInBounds_toArray, List.set_cons_zero, List.set_cons_succ]
            refine wpAnyH_take (i := 14) (v := ?vxa5_14) (by simp only [List.getElem?_toArray, List.getElem?_cons_succ, List.getElem?_cons_zero]; rfl) (by kernel_rfl) (by kernel_rfl) (by kernel_rfl) (fun _ _ _ h => h) (Or.inl ⟨by rfl, ?hyxa5_14⟩) (by assumption) ?restxa5_14
            case hyxa5_14 => (intro w hSw; (try dsimp only at hSw); go_simp; (try with_reducible rfl))
            try simp only [Act.put, List.setIfInBounds_toArray, List.set_cons_zero, List.set_cons_succ]
            refine wpAnyH_done (by kernel_rfl) ?_ _
            refine NoPanic.normal ?_
            go_wp2_with fail
            go_meet
            exact ⟨V2, A3, c3, A4, c4, rfl, rfl, rfl, HE.out⟩
        · go_simp
          have HS2 := Lib.hid (Rr.more HS1.out)
          generalize y1.alloc (.cells #[.int .u64 0, .slice none 0 0, .slice none 0 0] 31) = y2 at HS2 ⊢
          generalize y1.heap.size = V2 at HS2 ⊢
          clear HS1
          try dsimp only
          refine hK.out _ _ (HSK.out _ HS2.out.1.kp) (fun hHeld => ?_)
          clear hK K
          refine wpAnyH_ready (rs := [3]) (by kernel_rfl) (by simp) ?_
          refine (AllReadyH.cons (o := _) rfl (fun K hK => ?_) AllReadyH.nil)
          refine step_app_row rfl (.tmp 49) (.tmp 50) rfl _ _ _ [] (by simp [Act.eval]) HS2.out.2 (· < w.heap.size) Ab b.length cb b (by simp [Act.eval]) rfl (HBR.out y2 (HKX.out y2 HS2.out.1.kp)) (b.length) (by simp) (by omega) ?_
          intro A5 c5 y3 ho hk
          have HS3 := Lib.hid (Rr.app HS2.out ho hk)
          rw [List.nil_append] at HS3
          clear ho hk
          try simp only [Act.put, List.setIfInBounds_toArray, List.set_cons_zero, List.set_cons_succ]
          clear HS2
          try dsimp only
          refine hK.out _ _ (HSK.out _ HS3.out.1.kp) (fun hHeld => ?_)
          clear hK K
          refine wpAnyH_ready (rs := [5]) (by kernel_rfl) (by simp) ?_
          refine (AllReadyH.cons (o := _) rfl (fun K hK => ?_) AllReadyH.nil)
          refine step_app_row rfl (.tmp 51) (.tmp 52) rfl A5 b.length c5 b (by simp [Act.eval]) HS3.out.2 (· < w.heap.size) Am m.length cm m (by simp [Act.eval]) rfl (HMR.out y3 (HKX.out y3 HS3.out.1.kp)) (bm.length) (HBL.out) (by omega) ?_
          intro A6 c6 y4 ho hk
          have HS4 := Lib.hid (Rr.app HS3.out ho hk)
          rw [← HBM.out] at HS4
          clear ho hk
          try simp only [Act.put, List.setIfInBounds_toArray, List.set_cons_zero, List.set_cons_succ]
          clear HS3
          try dsimp only
          refine hK.out _ _ (HSK.out _ HS4.out.1.kp) (fun hHeld => ?_)
          clear hK K
          refine wpAnyH_ready (rs := [6]) (by kernel_rfl) (by simp) ?_
          refine (AllReadyH.cons (o := _) rfl (fun K hK => ?_) AllReadyH.nil)
          go_simp
          refine (HPX.out y4 A6 c6 HS4.out.1.kp (Rr.read HS4.out rfl)).mono ?_
          rintro e y5 ⟨A3, c3, A4, c4, rfl, hv, hk⟩
          have HS5 := Lib.hid (Ra.call HS4.out.1 hk hv)
          clear hv hk
          clear HS4
          try dsimp only
          refine hK.out _ _ (HSK.out _ HS5.out.1.kp) (fun hHeld => ?_)
          clear hK K
          refine wpAnyH_take (i := 7) (v := ?vxl6_7) (by simp only [List.getElem?_toArray, List.getElem?_cons_succ, List.getElem?_cons_zero]; rfl) (by kernel_rfl) (by kernel_rfl) (by kernel_rfl) (fun _ _ _ h => h) (Or.inl ⟨by rfl, ?hyxl6_7⟩) (by assumption) ?restxl6_7
          case hyxl6_7 => (intro w hSw; (try dsimp only at hSw); go_simp; (try with_reducible rfl))
          try simp only [Act.put, List.setIfInBounds_toArray, List.set_cons_zero, List.set_cons_succ]
          refine wpAnyH_take (i := 8) (v := ?vxl6_8) (by simp only [List.getElem?_toArray, List.getElem?_cons_succ, List.getElem?_cons_zero]; rfl) (by kernel_rfl) (by kernel_rfl) (by kernel_rfl) (fun _ _ _ h => h) (Or.inl ⟨by rfl, ?hyxl6_8⟩) (by assumption) ?restxl6_8
          case hyxl6_8 => (intro w hSw; (try dsimp only at hSw); go_simp; (try with_reducible rfl))
          try simp only [Act.put, List.setIfInBounds_toArray, List.set_cons_zero, List.set_cons_succ]
          refine wpAnyH_take (i := 9) (v := ?vxl6_9) (by simp only [List.getElem?_toArray, List.getElem?_cons_succ, List.getElem?_cons_zero]; rfl) (by kernel_rfl) (by kernel_rfl) (by kernel_rfl) (fun _ _ _ h => h) (Or.inl ⟨by rfl, ?hyxl6_9⟩) (by assumption) ?restxl6_9
          case hyxl6_9 => (intro w hSw; (try dsimp only at hSw); go_simp; (try with_reducible rfl))
          try simp only [Act.put, List.setIfInBounds_toArray, List.set_cons_zero, List.set_cons_succ]
          refine wpAnyH_take (i := 10) (v := ?vxl6_10) (by simp only [List.getElem?_toArray, List.getElem?_cons_succ, List.getElem?_cons_zero]; rfl) (by kernel_rfl) (by kernel_rfl) (by kernel_rfl) (fun _ _ _ h => h) (Or.inl ⟨by rfl, ?hyxl6_10⟩) (by assumption) ?restxl6_10
          case hyxl6_10 => (intro w hSw; (try dsimp only at hSw); go_simp; (try with_reducible rfl))
          try simp only [Act.put, List.setIfInBounds_toArray, List.set_cons_zero, List.set_cons_succ]
          refine wpAnyH_ready (rs := [12]) (by kernel_rfl) (by simp) ?_
          refine (AllReadyH.cons (o := _) rfl (fun K hK => ?_) AllReadyH.nil)
          have hzb := (HS5.out.1.2.1 V2 rfl).2
          have z0 := hzb.cell 0
          have z1 := hzb.cell 1
          have z2 := hzb.cell 2
          simp at z0 z1 z2
          have q0 := hzb.frozen 0
          have q1 := hzb.frozen 1
          have q2 := hzb.frozen 2
          clear hzb
          have HE := Lib.hid (Rc.fin HS5.out)
          go_simp
          try dsimp only
          refine hK.out _ _ (HSE.out _ (HE.out.1)) (fun hHeld => ?_)
          clear hK K z0 z1 z2 q0 q1 q2
          refine wpAnyH_take (i := 13) (v := ?vxa7_13) (by simp only [List.getElem?_toArray, List.getElem?_cons_succ, List.getElem?_cons_zero]; rfl) (by kernel_rfl) (by kernel_rfl) (by kernel_rfl) (fun _ _ _ h => h) (Or.inl ⟨by rfl, ?hyxa7_13⟩) (by assumption) ?restxa7_13
          case hyxa7_13 => (intro w hSw; (try dsimp only at hSw); go_simp; (try with_reducible rfl))
          try simp only [Act.put, List.setIfInBounds_toArray, List.set_cons_zero, List.set_cons_succ]
          refine wpAnyH_take (i := 14) (v := ?vxa7_14) (by simp only [List.getElem?_toArray, List.getElem?_cons_succ, List.getElem?_cons_zero]; rfl) (by kernel_rfl) (by kernel_rfl) (by kernel_rfl) (fun _ _ _ h => h) (Or.inl ⟨by rfl, ?hyxa7_14⟩) (by assumption) ?restxa7_14
          case hyxa7_14 => (intro w hSw; (try dsimp only at hSw); go_simp; (try with_reducible rfl))
          try simp only [Act.put, List.setIfInBounds_toArray, List.set_cons_zero, List.set_cons_succ]
          refine wpAnyH_done (by kernel_rfl) ?_ _
          refine NoPanic.normal ?_
          go_wp2_with fail
          go_meet
          exact ⟨V2, A3, c3, A4, c4, rfl, rfl, rfl, HE.out⟩
      · go_simp
        have HS1 := Lib.hid (Ra.more HS0.out)
        generalize y0.alloc (.cells #[.int .u64 0, .slice none 0 0, .slice none 0 0] 31) = y1 at HS1 ⊢
        generalize y0.heap.size = V2 at HS1 ⊢
        clear HS0
        try dsimp only
        refine hK.out _ _ (HSK.out _ HS1.out.kp) (fun hHeld => ?_)
        clear hK K
        refine wpAnyH_ready (rs := [1]) (by kernel_rfl) (by simp) ?_
        refine (AllReadyH.cons (o := _) rfl (fun K hK => ?_) AllReadyH.nil)
        go_simp
        have HS2 := Lib.hid (Ra.lit HS1.out)
        generalize y1.alloc (.cells #[] 5) = y2 at HS2 ⊢
        generalize y1.heap.size = gA at HS2 ⊢
        clear HS1
        try dsimp only
        refine hK.out _ _ (HSK.out _ HS2.out.1.kp) (fun hHeld => ?_)
        clear hK K
        refine wpAnyH_ready (rs := [3]) (by kernel_rfl) (by simp) ?_
        refine (AllReadyH.cons (o := _) rfl (fun K hK => ?_) AllReadyH.nil)
        refine step_app_row rfl (.tmp 49) (.tmp 50) rfl _ _ _ [] (by simp [Act.eval]) HS2.out.2 (· < w.heap.size) Ab b.length cb b (by simp [Act.eval]) rfl (HBR.out y2 (HKX.out y2 HS2.out.1.kp)) (b.length) (by simp) (by omega) ?_
        intro A5 c5 y3 ho hk
        have HS3 := Lib.hid (Rr.app HS2.out ho hk)
        rw [List.nil_append] at HS3
        clear ho hk
        try simp only [Act.put, List.setIfInBounds_toArray, List.set_cons_zero, List.set_cons_succ]
        clear HS2
        try dsimp only
        refine hK.out _ _ (HSK.out _ HS3.out.1.kp) (fun hHeld => ?_)
        clear hK K
        refine wpAnyH_ready (rs := [5]) (by kernel_rfl) (by simp) ?_
        refine (AllReadyH.cons (o := _) rfl (fun K hK => ?_) AllReadyH.nil)
        refine step_app_row rfl (.tmp 51) (.tmp 52) rfl A5 b.length c5 b (by simp [Act.eval]) HS3.out.2 (· < w.heap.size) Am m.length cm m (by simp [Act.eval]) rfl (HMR.out y3 (HKX.out y3 HS3.out.1.kp)) (bm.length) (HBL.out) (by omega) ?_
        intro A6 c6 y4 ho hk
        have HS4 := Lib.hid (Rr.app HS3.out ho hk)
        rw [← HBM.out] at HS4
        clear ho hk
        try simp only [Act.put, List.setIfInBounds_toArray, List.set_cons_zero, List.set_cons_succ]
        clear HS3
        try dsimp only
        refine hK.out _ _ (HSK.out _ HS4.out.1.kp) (fun hHeld => ?_)
        clear hK K
        refine wpAnyH_ready (rs := [6]) (by kernel_rfl) (by simp) ?_
        refine (AllReadyH.cons (o := _) rfl (fun K hK => ?_) AllReadyH.nil)
        go_simp
        refine (HPX.out y4 A6 c6 HS4.out.1.kp (Rr.read HS4.out rfl)).mono ?_
        rintro e y5 ⟨A3, c3, A4, c4, rfl, hv, hk⟩
        have HS5 := Lib.hid (Ra.call HS4.out.1 hk hv)
        clear hv hk
        clear HS4
        try dsimp only
        refine hK.out _ _ (HSK.out _ HS5.out.1.kp) (fun hHeld => ?_)
        clear hK K
        refine wpAnyH_take (i := 7) (v := ?vxl8_7) (by simp only [List.getElem?_toArray, List.getElem?_cons_succ, List.getElem?_cons_zero]; rfl) (by kernel_rfl) (by kernel_rfl) (by kernel_rfl) (fun _ _ _ h => h) (Or.inl ⟨by rfl, ?hyxl8_7⟩) (by assumption) ?restxl8_7
        case hyxl8_7 => (intro w hSw; (try dsimp only at hSw); go_simp; (try with_reducible rfl))
        try simp only [Act.put, List.setIfInBounds_toArray, List.set_cons_zero, List.set_cons_succ]
        refine wpAnyH_take (i := 8) (v := ?vxl8_8) (by simp only [List.getElem?_toArray, List.getElem?_cons_succ, List.getElem?_cons_zero]; rfl) (by kernel_rfl) (by kernel_rfl) (by kernel_rfl) (fun _ _ _ h => h) (Or.inl ⟨by rfl, ?hyxl8_8⟩) (by assumption) ?restxl8_8
        case hyxl8_8 => (intro w hSw; (try dsimp only at hSw); go_simp; (try with_reducible rfl))
        try simp only [Act.put, List.setIfInBounds_toArray, List.set_cons_zero, List.set_cons_succ]
        refine wpAnyH_take (i := 9) (v := ?vxl8_9) (by simp only [List.getElem?_toArray, List.getElem?_cons_succ, List.getElem?_cons_zero]; rfl) (by kernel_rfl) (by kernel_rfl) (by kernel_rfl) (fun _ _ _ h => h) (Or.inl ⟨by rfl, ?hyxl8_9⟩) (by assumption) ?restxl8_9
        case hyxl8_9 => (intro w hSw; (try dsimp only at hSw); go_simp; (try with_reducible rfl))
        try simp only [Act.put, List.setIfInBounds_toArray, List.set_cons_zero, List.set_cons_succ]
        refine wpAnyH_take (i := 10) (v := ?vxl8_10) (by simp only [List.getElem?_toArray, List.getElem?_cons_succ, List.getElem?_cons_zero]; rfl) (by kernel_rfl) (by kernel_rfl) (by kernel_rfl) (fun _ _ _ h => h) (Or.inl ⟨by rfl, ?hyxl8_10⟩) (by assumption) ?restxl8_10
        case hyxl8_10 => (intro w hSw; (try dsimp only at hSw); go_simp; (try with_reducible rfl))
        try simp only [Act.put, List.setIfInBounds_toArray, List.set_cons_zero, List.set_cons_succ]
        refine wpAnyH_ready (rs := [12]) (by kernel_rfl) (by simp) ?_
        refine (AllReadyH.cons (o := _) rfl (fun K hK => ?_) AllReadyH.nil)
        have hzb := (HS5.out.1.2.1 V2 rfl).2
        have z0 := hzb.cell 0
        have z1 := hzb.cell 1
        have z2 := hzb.cell 2
        simp at z0 z1 z2
        have q0 := hzb.frozen 0
        have q1 := hzb.frozen 1
        have q2 := hzb.frozen 2
        clear hzb
        have HE := Lib.hid (Rc.fin HS5.out)
        go_simp
        try dsimp only
        refine hK.out _ _ (HSE.out _ (HE.out.1)) (fun hHeld => ?_)
        clear hK K z0 z1 z2 q0 q1 q2
        refine wpAnyH_take (i := 13) (v := ?vxa9_13) (by simp only [List.getElem?_toArray, List.getElem?_cons_succ, List.getElem?_cons_zero]; rfl) (by kernel_rfl) (by kernel_rfl) (by kernel_rfl) (fun _ _ _ h => h) (Or.inl ⟨by rfl, ?hyxa9_13⟩) (by assumption) ?restxa9_13
        case hyxa9_13 => (intro w hSw; (try dsimp only at hSw); go_simp; (try with_reducible rfl))
        try simp only [Act.put, List.setIfInBounds_toArray, List.set_cons_zero, List.set_cons_succ]
        refine wpAnyH_take (i := 14) (v := ?vxa9_14) (by simp only [List.getElem?_toArray, List.getElem?_cons_succ, List.getElem?_cons_zero]; rfl) (by kernel_rfl) (by kernel_rfl) (by kernel_rfl) (fun _ _ _ h => h) (Or.inl ⟨by rfl, ?hyxa9_14⟩) (by assumption) ?restxa9_14
        case hyxa9_14 => (intro w hSw; (try dsimp only at hSw); go_simp; (try with_reducible rfl))
        try simp only [Act.put, List.setIfInBounds_toArray, List.set_cons_zero, List.set_cons_succ]
        refine wpAnyH_done (by kernel_rfl) ?_ _
        refine NoPanic.normal ?_
        go_wp2_with fail
        go_meet
        exact ⟨V2, A3, c3, A4, c4, rfl, rfl, rfl, HE.out⟩
    case rest =>
    obtain ⟨V2, A3, c3, A4, c4, rfl, rfl, rfl, hend⟩ := hcut
    obtain ⟨hk7, hV2, hb7, hv7⟩ := hend
    clear HSE HSK HKX HPX HR1 HBM HBL hbml
    generalize wc = w7 at hk7 hb7 hv7 ⊢
    have HK7 := Lib.hid (HK6.out.then_ hk7 (fun _ h => h.elim))
    have HBF7 := Lib.hid (HBF6.out.kp hk7 (fun h => h))
    have HV7 := Lib.hid (HV6.out.kp hk7 (fun _ _ h => h))
    have HBV7 := Lib.hid (HBV.out.kp hk7 (fun h => h))
    have HB7 := Lib.hid hb7
    have HX7 := Lib.hid hv7
    clear hk7 hb7 hv7 hV2 HK6 HBF6 HV6 HBV
    go_upto_region 7 with fail
    have HSE := Lib.hid (fun Wx (hk : Kp (fun _ => False) w7 Wx) => show (fun w' : World => w'.cell? ⟨w.heap.size, 0, none⟩ = some (.int .i64 k) ∧ w'.cell? ⟨w.heap.size, 1, none⟩ = some (.int .i64 s) ∧ w'.cell? ⟨w.heap.size, 2, none⟩ = some (.int .i64 lo) ∧ w'.cell? ⟨w.heap.size, 3, none⟩ = some (.int .i64 hi) ∧ w'.cell? ⟨w.heap.size, 4, none⟩ = some (.int .i64 st) ∧ w'.cell? ⟨w.heap.size, 5, none⟩ = some (.slice A0 P.length c0)) Wx from by have hb := HBF7.out.kp hk (fun h => h); exact ⟨hb.cell 0, hb.cell 1, hb.cell 2, hb.cell 3, hb.cell 4, hb.cell 5⟩)
    have HSK := Lib.hid (fun Wx (hk : Kp (w7.heap.size ≤ ·) w7 Wx) => HSE.out Wx (hk.mono (fun i hi h => by omega)))
    have HKX := Lib.hid (fun Wx (hk : Kp (w7.heap.size ≤ ·) w7 Wx) => HK7.out.then_ (hk.mono (T := fun _ => False) (fun i hi h => by omega)) (fun _ h => h.elim))
    have HPX := Lib.hid (fun Wx (hk : Kp (w7.heap.size ≤ ·) w7 Wx) => read_at (· < Wx.heap.size) (.mk ⟨k, s, lo, hi, st⟩ P) (fv ⟨k, s, lo, hi, st⟩ A0 P.length c0) (.slice Ab n cb) (b.take n) 0 Wx n5 l5 l6 n 0 HR2.out hsz ((HFV.out Wx (HKX.out Wx hk)).mono (fun i hi => Nat.lt_of_lt_of_le hi (HKX.out Wx hk).size)) ((BR.takeR (HBR.out Wx (HKX.out Wx hk)) hn).mono (fun i hi => Nat.lt_of_lt_of_le hi (HKX.out Wx hk).size)) (fun i hi => hi) (Nat.lt_of_lt_of_le HOK.out (HKX.out Wx hk).size) (by rw [List.length_take]; omega) (by omega) (by rw [List.length_take]; omega) (HTB.out Wx (HKX.out Wx hk)))
    simp only [Int.zero_add] at HPX
    have hnc : n ≤ cb := Nat.le_trans hn HBC.out
    go_cut [13, 14, 15] (fun p c d wx => ∃ V A3 c3 A4 c4, p = .pointer (some ⟨V, 0, none⟩) ∧ c = .int .i64 (n : Int) ∧ d = .int .i64 0 ∧ Rend w7 wx V n5 (.slice A3 l5.length c3) (.slice A4 l6.length c4) (.mk ⟨n5, l5⟩ l6))
    case first =>
      refine wp_region_noPanic ?_
      have HS0 := Lib.hid (Ra.start w7)
      refine wp_region_held_drew (S := (fun w' : World => w'.cell? ⟨w.heap.size, 0, none⟩ = some (.int .i64 k) ∧ w'.cell? ⟨w.heap.size, 1, none⟩ = some (.int .i64 s) ∧ w'.cell? ⟨w.heap.size, 2, none⟩ = some (.int .i64 lo) ∧ w'.cell? ⟨w.heap.size, 3, none⟩ = some (.int .i64 hi) ∧ w'.cell? ⟨w.heap.size, 4, none⟩ = some (.int .i64 st) ∧ w'.cell? ⟨w.heap.size, 5, none⟩ = some (.slice A0 P.length c0))) (by kernel_rfl) (HSK.out _ HS0.out.kp) (fun hHeld => ?_)
      generalize w7.drew = y0 at HS0 hHeld ⊢
      refine wpAnyH_take (i := 0) (v := ?vz0) (by simp only [List.getElem?_toArray, List.getElem?_cons_zero]; rfl) (by kernel_rfl) (by kernel_rfl) (by kernel_rfl) (fun _ _ _ h => h) (Or.inl ⟨by rfl, ?hyz0⟩) (by assumption) ?restz0
      case hyz0 => (intro w hSw; (try dsimp only at hSw); go_simp; (try with_reducible rfl))
      try simp only [Act.put, List.setIfInBounds_toArray, List.set_cons_zero, List.set_cons_succ]
      refine wpAnyH_take (i := 1) (v := ?vz1) (by simp only [List.getElem?_toArray, List.getElem?_cons_succ, List.getElem?_cons_zero]; rfl) (by kernel_rfl) (by kernel_rfl) (by kernel_rfl) (fun _ _ _ h => h) (Or.inl ⟨by rfl, ?hyz1⟩) (by assumption) ?restz1
      case hyz1 => (intro w hSw; (try dsimp only at hSw); go_simp; (try with_reducible rfl))
      try simp only [Act.put, List.setIfInBounds_toArray, List.set_cons_zero, List.set_cons_succ]
      refine wpAnyH_take (i := 2) (v := ?vz2) (by simp only [List.getElem?_toArray, List.getElem?_cons_succ, List.getElem?_cons_zero]; rfl) (by kernel_rfl) (by kernel_rfl) (by kernel_rfl) (fun _ _ _ h => h) (Or.inl ⟨by rfl, ?hyz2⟩) (by assumption) ?restz2
      case hyz2 => (intro w hSw; (try dsimp only at hSw); go_simp; (try with_reducible rfl))
      try simp only [Act.put, List.setIfInBounds_toArray, List.set_cons_zero, List.set_cons_succ]
      refine wpAnyH_ready (rs := [3, 9]) (by kernel_rfl) (by simp) ?_
      refine (AllReadyH.cons (o := _) rfl (fun K hK => ?_) (AllReadyH.cons (o := _) rfl (fun K hK => ?_) AllReadyH.nil))
      · go_simp
        try dsimp only
        refine hK.out _ _ (HSK.out _ HS0.out.kp) (fun hHeld => ?_)
        clear hK K
        refine wpAnyH_ready (rs := [4, 9]) (by kernel_rfl) (by simp) ?_
        refine (AllReadyH.cons (o := _) rfl (fun K hK => ?_) (AllReadyH.cons (o := _) rfl (fun K hK => ?_) AllReadyH.nil))
        · go_simp
          refine (HPX.out y0 HS0.out.kp).mono ?_
          rintro e y2 ⟨A7, c7, A8, c8, rfl, hv, hk⟩
          have HS2 := Lib.hid (Ra.call HS0.out hk hv)
          clear hv hk
          clear HS0
          try dsimp only
          refine hK.out _ _ (HSK.out _ HS2.out.1.kp) (fun hHeld => ?_)
          clear hK K
          refine wpAnyH_take (i := 5) (v := ?vzl0_5) (by simp only [List.getElem?_toArray, List.getElem?_cons_succ, List.getElem?_cons_zero]; rfl) (by kernel_rfl) (by kernel_rfl) (by kernel_rfl) (fun _ _ _ h => h) (Or.inl ⟨by rfl, ?hyzl0_5⟩) (by assumption) ?restzl0_5
          case hyzl0_5 => (intro w hSw; (try dsimp only at hSw); go_simp; (try with_reducible rfl))
          try simp only [Act.put, List.setIfInBounds_toArray, List.set_cons_zero, List.set_cons_succ]
          refine wpAnyH_take (i := 6) (v := ?vzl0_6) (by simp only [List.getElem?_toArray, List.getElem?_cons_succ, List.getElem?_cons_zero]; rfl) (by kernel_rfl) (by kernel_rfl) (by kernel_rfl) (fun _ _ _ h => h) (Or.inl ⟨by rfl, ?hyzl0_6⟩) (by assumption) ?restzl0_6
          case hyzl0_6 => (intro w hSw; (try dsimp only at hSw); go_simp; (try with_reducible rfl))
          try simp only [Act.put, List.setIfInBounds_toArray, List.set_cons_zero, List.set_cons_succ]
          refine wpAnyH_take (i := 7) (v := ?vzl0_7) (by simp only [List.getElem?_toArray, List.getElem?_cons_succ, List.getElem?_cons_zero]; rfl) (by kernel_rfl) (by kernel_rfl) (by kernel_rfl) (fun _ _ _ h => h) (Or.inl ⟨by rfl, ?hyzl0_7⟩) (by assumption) ?restzl0_7
          case hyzl0_7 => (intro w hSw; (try dsimp only at hSw); go_simp; (try with_reducible rfl))
          try simp only [Act.put, List.setIfInBounds_toArray, List.set_cons_zero, List.set_cons_succ]
          refine wpAnyH_take (i := 8) (v := ?vzl0_8) (by simp only [List.getElem?_toArray, List.getElem?_cons_succ, List.getElem?_cons_zero]; rfl) (by kernel_rfl) (by kernel_rfl) (by kernel_rfl) (fun _ _ _ h => h) (Or.inl ⟨by rfl, ?hyzl0_8⟩) (by assumption) ?restzl0_8
          case hyzl0_8 => (intro w hSw; (try dsimp only at hSw); go_simp; (try with_reducible rfl))
          try simp only [Act.put, List.setIfInBounds_toArray, List.set_cons_zero, List.set_cons_succ]
          refine wpAnyH_ready (rs := [9]) (by kernel_rfl) (by simp) ?_
          refine (AllReadyH.cons (o := _) rfl (fun K hK => ?_) AllReadyH.nil)
          go_simp
          have HS3 := Lib.hid (Rc.more HS2.out)
          generalize y2.alloc (.cells #[.int .u64 0, .slice none 0 0, .slice none 0 0] 31) = y3 at HS3 ⊢
          generalize y2.heap.size = V3 at HS3 ⊢
          clear HS2
          try dsimp only
          refine hK.out _ _ (HSK.out _ HS3.out.1.kp) (fun hHeld => ?_)
          clear hK K
          refine wpAnyH_ready (rs := [10]) (by kernel_rfl) (by simp) ?_
          refine (AllReadyH.cons (o := _) rfl (fun K hK => ?_) AllReadyH.nil)
          have hzb := (HS3.out.1.2.1 V3 rfl).2
          have z0 := hzb.cell 0
          have z1 := hzb.cell 1
          have z2 := hzb.cell 2
          simp at z0 z1 z2
          have q0 := hzb.frozen 0
          have q1 := hzb.frozen 1
          have q2 := hzb.frozen 2
          clear hzb
          have HE := Lib.hid (Rc.fin HS3.out)
          go_simp
          try dsimp only
          refine hK.out _ _ (HSE.out _ (HE.out.1)) (fun hHeld => ?_)
          clear hK K z0 z1 z2 q0 q1 q2
          refine wpAnyH_take (i := 11) (v := ?vza1_11) (by simp only [List.getElem?_toArray, List.getElem?_cons_succ, List.getElem?_cons_zero]; rfl) (by kernel_rfl) (by kernel_rfl) (by kernel_rfl) (fun _ _ _ h => h) (Or.inl ⟨by rfl, ?hyza1_11⟩) (by assumption) ?restza1_11
          case hyza1_11 => (intro w hSw; (try dsimp only at hSw); go_simp; (try with_reducible rfl))
          try simp only [Act.put, List.setIfInBounds_toArray, List.set_cons_zero, List.set_cons_succ]
          refine wpAnyH_take (i := 12) (v := ?vza1_12) (by simp only [List.getElem?_toArray, List.getElem?_cons_succ, List.getElem?_cons_zero]; rfl) (by kernel_rfl) (by kernel_rfl) (by kernel_rfl) (fun _ _ _ h => h) (Or.inl ⟨by rfl, ?hyza1_12⟩) (by assumption) ?restza1_12
          case hyza1_12 => (intro w hSw; (try dsimp only at hSw); go_simp; (try with_reducible rfl))
          try simp only [Act.put, List.setIfInBounds_toArray, List.set_cons_zero, List.set_cons_succ]
          refine wpAnyH_done (by kernel_rfl) ?_ _
          refine NoPanic.normal ?_
          go_wp2_with fail
          go_meet
          exact ⟨V3, A7, c7, A8, c8, rfl, rfl, rfl, HE.out⟩
        · go_simp
          have HS2 := Lib.hid (Ra.more HS0.out)
          generalize y0.alloc (.cells #[.int .u64 0, .slice none 0 0, .slice none 0 0] 31) = y2 at HS2 ⊢
          generalize y0.heap.size = V3 at HS2 ⊢
          clear HS0
          try dsimp only
          refine hK.out _ _ (HSK.out _ HS2.out.kp) (fun hHeld => ?_)
          clear hK K
          refine wpAnyH_ready (rs := [4]) (by kernel_rfl) (by simp) ?_
          refine (AllReadyH.cons (o := _) rfl (fun K hK => ?_) AllReadyH.nil)
          go_simp
          refine (HPX.out y2 HS2.out.kp).mono ?_
          rintro e y3 ⟨A7, c7, A8, c8, rfl, hv, hk⟩
          have HS3 := Lib.hid (Ra.call HS2.out hk hv)
          clear hv hk
          clear HS2
          try dsimp only
          refine hK.out _ _ (HSK.out _ HS3.out.1.kp) (fun hHeld => ?_)
          clear hK K
          refine wpAnyH_take (i := 5) (v := ?vzl2_5) (by simp only [List.getElem?_toArray, List.getElem?_cons_succ, List.getElem?_cons_zero]; rfl) (by kernel_rfl) (by kernel_rfl) (by kernel_rfl) (fun _ _ _ h => h) (Or.inl ⟨by rfl, ?hyzl2_5⟩) (by assumption) ?restzl2_5
          case hyzl2_5 => (intro w hSw; (try dsimp only at hSw); go_simp; (try with_reducible rfl))
          try simp only [Act.put, List.setIfInBounds_toArray, List.set_cons_zero, List.set_cons_succ]
          refine wpAnyH_take (i := 6) (v := ?vzl2_6) (by simp only [List.getElem?_toArray, List.getElem?_cons_succ, List.getElem?_cons_zero]; rfl) (by kernel_rfl) (by kernel_rfl) (by kernel_rfl) (fun _ _ _ h => h) (Or.inl ⟨by rfl, ?hyzl2_6⟩) (by assumption) ?restzl2_6
          case hyzl2_6 => (intro w hSw; (try dsimp only at hSw); go_simp; (try with_reducible rfl))
          try simp only [Act.put, List.setIfInBounds_toArray, List.set_cons_zero, List.set_cons_succ]
          refine wpAnyH_take (i := 7) (v := ?vzl2_7) (by simp only [List.getElem?_toArray, List.getElem?_cons_succ, List.getElem?_cons_zero]; rfl) (by kernel_rfl) (by kernel_rfl) (by kernel_rfl) (fun _ _ _ h => h) (Or.inl ⟨by rfl, ?hyzl2_7⟩) (by assumption) ?restzl2_7
          case hyzl2_7 => (intro w hSw; (try dsimp only at hSw); go_simp; (try with_reducible rfl))
          try simp only [Act.put, List.setIfInBounds_toArray, List.set_cons_zero, List.set_cons_succ]
          refine wpAnyH_take (i := 8) (v := ?vzl2_8) (by simp only [List.getElem?_toArray, List.getElem?_cons_succ, List.getElem?_cons_zero]; rfl) (by kernel_rfl) (by kernel_rfl) (by kernel_rfl) (fun _ _ _ h => h) (Or.inl ⟨by rfl, ?hyzl2_8⟩) (by assumption) ?restzl2_8
          case hyzl2_8 => (intro w hSw; (try dsimp only at hSw); go_simp; (try with_reducible rfl))
          try simp only [Act.put, List.setIfInBounds_toArray, List.set_cons_zero, List.set_cons_succ]
          refine wpAnyH_ready (rs := [10]) (by kernel_rfl) (by simp) ?_
          refine (AllReadyH.cons (o := _) rfl (fun K hK => ?_) AllReadyH.nil)
          have hzb := (HS3.out.1.2.1 V3 rfl).2
          have z0 := hzb.cell 0
          have z1 := hzb.cell 1
          have z2 := hzb.cell 2
          simp at z0 z1 z2
          have q0 := hzb.frozen 0
          have q1 := hzb.frozen 1
          have q2 := hzb.frozen 2
          clear hzb
          have HE := Lib.hid (Rc.fin HS3.out)
          go_simp
          try dsimp only
          refine hK.out _ _ (HSE.out _ (HE.out.1)) (fun hHeld => ?_)
          clear hK K z0 z1 z2 q0 q1 q2
          refine wpAnyH_take (i := 11) (v := ?vza3_11) (by simp only [List.getElem?_toArray, List.getElem?_cons_succ, List.getElem?_cons_zero]; rfl) (by kernel_rfl) (by kernel_rfl) (by kernel_rfl) (fun _ _ _ h => h) (Or.inl ⟨by rfl, ?hyza3_11⟩) (by assumption) ?restza3_11
          case hyza3_11 => (intro w hSw; (try dsimp only at hSw); go_simp; (try with_reducible rfl))
          try simp only [Act.put, List.setIfInBounds_toArray, List.set_cons_zero, List.set_cons_succ]
          refine wpAnyH_take (i := 12) (v := ?vza3_12) (by simp only [List.getElem?_toArray, List.getElem?_cons_succ, List.getElem?_cons_zero]; rfl) (by kernel_rfl) (by kernel_rfl) (by kernel_rfl) (fun _ _ _ h => h) (Or.inl ⟨by rfl, ?hyza3_12⟩) (by assumption) ?restza3_12
          case hyza3_12 => (intro w hSw; (try dsimp only at hSw); go_simp; (try with_reducible rfl))
          try simp only [Act.put, List.setIfInBounds_toArray, List.set_cons_zero, List.set_cons_succ]
          refine wpAnyH_done (by kernel_rfl) ?_ _
          refine NoPanic.normal ?_
          go_wp2_with fail
          go_meet
          exact ⟨V3, A7, c7, A8, c8, rfl, rfl, rfl, HE.out⟩
      · go_simp
        have HS1 := Lib.hid (Ra.more HS0.out)
        generalize y0.alloc (.cells #[.int .u64 0, .slice none 0 0, .slice none 0 0] 31) = y1 at HS1 ⊢
        generalize y0.heap.size = V3 at HS1 ⊢
        clear HS0
        try dsimp only
        refine hK.out _ _ (HSK.out _ HS1.out.kp) (fun hHeld => ?_)
        clear hK K
        refine wpAnyH_ready (rs := [3]) (by kernel_rfl) (by simp) ?_
        refine (AllReadyH.cons (o := _) rfl (fun K hK => ?_) AllReadyH.nil)
        go_simp
        try dsimp only
        refine hK.out _ _ (HSK.out _ HS1.out.kp) (fun hHeld => ?_)
        clear hK K
        refine wpAnyH_ready (rs := [4]) (by kernel_rfl) (by simp) ?_
        refine (AllReadyH.cons (o := _) rfl (fun K hK => ?_) AllReadyH.nil)
        go_simp
        refine (HPX.out y1 HS1.out.kp).mono ?_
        rintro e y3 ⟨A7, c7, A8, c8, rfl, hv, hk⟩
        have HS3 := Lib.hid (Ra.call HS1.out hk hv)
        clear hv hk
        clear HS1
        try dsimp only
        refine hK.out _ _ (HSK.out _ HS3.out.1.kp) (fun hHeld => ?_)
        clear hK K
        refine wpAnyH_take (i := 5) (v := ?vzl4_5) (by simp only [List.getElem?_toArray, List.getElem?_cons_succ, List.getElem?_cons_zero]; rfl) (by kernel_rfl) (by kernel_rfl) (by kernel_rfl) (fun _ _ _ h => h) (Or.inl ⟨by rfl, ?hyzl4_5⟩) (by assumption) ?restzl4_5
        case hyzl4_5 => (intro w hSw; (try dsimp only at hSw); go_simp; (try with_reducible rfl))
        try simp only [Act.put, List.setIfInBounds_toArray, List.set_cons_zero, List.set_cons_succ]
        refine wpAnyH_take (i := 6) (v := ?vzl4_6) (by simp only [List.getElem?_toArray, List.getElem?_cons_succ, List.getElem?_cons_zero]; rfl) (by kernel_rfl) (by kernel_rfl) (by kernel_rfl) (fun _ _ _ h => h) (Or.inl ⟨by rfl, ?hyzl4_6⟩) (by assumption) ?restzl4_6
        case hyzl4_6 => (intro w hSw; (try dsimp only at hSw); go_simp; (try with_reducible rfl))
        try simp only [Act.put, List.setIfInBounds_toArray, List.set_cons_zero, List.set_cons_succ]
        refine wpAnyH_take (i := 7) (v := ?vzl4_7) (by simp only [List.getElem?_toArray, List.getElem?_cons_succ, List.getElem?_cons_zero]; rfl) (by kernel_rfl) (by kernel_rfl) (by kernel_rfl) (fun _ _ _ h => h) (Or.inl ⟨by rfl, ?hyzl4_7⟩) (by assumption) ?restzl4_7
        case hyzl4_7 => (intro w hSw; (try dsimp only at hSw); go_simp; (try with_reducible rfl))
        try simp only [Act.put, List.setIfInBounds_toArray, List.set_cons_zero, List.set_cons_succ]
        refine wpAnyH_take (i := 8) (v := ?vzl4_8) (by simp only [List.getElem?_toArray, List.getElem?_cons_succ, List.getElem?_cons_zero]; rfl) (by kernel_rfl) (by kernel_rfl) (by kernel_rfl) (fun _ _ _ h => h) (Or.inl ⟨by rfl, ?hyzl4_8⟩) (by assumption) ?restzl4_8
        case hyzl4_8 => (intro w hSw; (try dsimp only at hSw); go_simp; (try with_reducible rfl))
        try simp only [Act.put, List.setIfInBounds_toArray, List.set_cons_zero, List.set_cons_succ]
        refine wpAnyH_ready (rs := [10]) (by kernel_rfl) (by simp) ?_
        refine (AllReadyH.cons (o := _) rfl (fun K hK => ?_) AllReadyH.nil)
        have hzb := (HS3.out.1.2.1 V3 rfl).2
        have z0 := hzb.cell 0
        have z1 := hzb.cell 1
        have z2 := hzb.cell 2
        simp at z0 z1 z2
        have q0 := hzb.frozen 0
        have q1 := hzb.frozen 1
        have q2 := hzb.frozen 2
        clear hzb
        have HE := Lib.hid (Rc.fin HS3.out)
        go_simp
        try dsimp only
        refine hK.out _ _ (HSE.out _ (HE.out.1)) (fun hHeld => ?_)
        clear hK K z0 z1 z2 q0 q1 q2
        refine wpAnyH_take (i := 11) (v := ?vza5_11) (by simp only [List.getElem?_toArray, List.getElem?_cons_succ, List.getElem?_cons_zero]; rfl) (by kernel_rfl) (by kernel_rfl) (by kernel_rfl) (fun _ _ _ h => h) (Or.inl ⟨by rfl, ?hyza5_11⟩) (by assumption) ?restza5_11
        case hyza5_11 => (intro w hSw; (try dsimp only at hSw); go_simp; (try with_reducible rfl))
        try simp only [Act.put, List.setIfInBounds_toArray, List.set_cons_zero, List.set_cons_succ]
        refine wpAnyH_take (i := 12) (v := ?vza5_12) (by simp only [List.getElem?_toArray, List.getElem?_cons_succ, List.getElem?_cons_zero]; rfl) (by kernel_rfl) (by kernel_rfl) (by kernel_rfl) (fun _ _ _ h => h) (Or.inl ⟨by rfl, ?hyza5_12⟩) (by assumption) ?restza5_12
        case hyza5_12 => (intro w hSw; (try dsimp only at hSw); go_simp; (try with_reducible rfl))
        try simp only [Act.put, List.setIfInBounds_toArray, List.set_cons_zero, List.set_cons_succ]
        refine wpAnyH_done (by kernel_rfl) ?_ _
        refine NoPanic.normal ?_
        go_wp2_with fail
        go_meet
        exact ⟨V3, A7, c7, A8, c8, rfl, rfl, rfl, HE.out⟩
    case rest =>
    obtain ⟨V3, A7, c7, A8, c8, rfl, rfl, rfl, hend⟩ := hcut
    obtain ⟨hk8, hV3, hb8, hv8⟩ := hend
    clear HSE HSK HKX HPX HR2
    generalize wc = w8 at hk8 hb8 hv8 ⊢
    have HK8 := Lib.hid (HK7.out.then_ hk8 (fun _ h => h.elim))
    have HV8 := Lib.hid (HV7.out.kp hk8 (fun _ _ h => h))
    have HBV8 := Lib.hid (HBV7.out.kp hk8 (fun h => h))
    have HBW8 := Lib.hid (HB7.out.kp hk8 (fun h => h))
    have HW8 := Lib.hid (HX7.out.kp hk8 (fun _ _ h => h))
    have HB8 := Lib.hid hb8
    have HX8 := Lib.hid hv8
    clear hk8 hb8 hv8 hV3 HK7 HBF7 HV7 HBV7 HB7 HX7
    have HSM := Lib.hid (same05_any _ _ _ _ _ _ w8 HV8.out HW8.out)
    rw [sameV_refl] at HSM
    have v0 := HBV8.out.cell 0
    have v1 := HBV8.out.cell 1
    have v2 := HBV8.out.cell 2
    have u0 := HBW8.out.cell 0
    have u1 := HBW8.out.cell 1
    have u2 := HBW8.out.cell 2
    simp at v0 v1 v2 u0 u1 u2
    have hn0 : (0 : Int) ≤ (n : Int) := by omega
    go_wp2_with fail
    refine HSM.out.mono ?_
    rintro e w9 ⟨rfl, hk9⟩
    have HK9 := Lib.hid (HK8.out.then_ hk9 (fun _ h => h.elim))
    have HBV9 := Lib.hid (HBV8.out.kp hk9 (fun h => h))
    have HB9 := Lib.hid (HB8.out.kp hk9 (fun h => h))
    have HSN := Lib.hid (same05_any _ _ _ _ _ _ w9 (HV8.out.kp hk9 (fun _ _ h => h)) (HX8.out.kp hk9 (fun _ _ h => h)))
    rw [sameV_refl] at HSN
    clear hk9 v0 v1 v2 u0 u1 u2
    have v0 := HBV9.out.cell 0
    have v1 := HBV9.out.cell 1
    have v2 := HBV9.out.cell 2
    have u0 := HB9.out.cell 0
    have u1 := HB9.out.cell 1
    have u2 := HB9.out.cell 2
    simp at v0 v1 v2 u0 u1 u2
    go_wp2_with fail
    refine HSN.out.mono ?_
    rintro e w10 ⟨rfl, hk10⟩
    have HK10 := Lib.hid (HK9.out.then_ hk10 (fun _ h => h.elim))
    clear hk10
    go_wp2_with fail
    go_ret
    exact ⟨rfl, HK10.out⟩
end Go.Proofs.YtdhnfccgojgehaaDoor

namespace Go.Proofs.YtdhnfccgojgehaaDoor
open Go.Joins Go.ChangeShapes Go.WideShapes Go.ChangeAt Go.RowKit Go.Deep

theorem i64B_of {n : Int} (h : (Lit.int .i64 n).wf = true) : i64B n := by
  obtain ⟨h0, h1⟩ := bounds_i64 h
  exact ⟨h0, by omega⟩
section
variable {H : Type} {enc : TypeId × Value → H} {w : World} {sp : Nat → Bool} {held : Bool} {r : Reach} {b0 : Nat}
end
end Go.Proofs.YtdhnfccgojgehaaDoor

namespace Go.Proofs.YtdhnfccgojgehaaDoor
set_option maxRecDepth 100000
open Go.Joins Go.ChangeShapes Go.WideShapes Go.ChangeAt Go.RowKit Go.Deep

theorem okWide_struct_ {P : Program} {w : World} {r : Reach} {b : Nat} {t : TypeId} {fs : Array Field} {v : Value} (ht : P.underlying t = some (.struct fs)) (h : Value.okWide P w r b t v) : ∃ cs, v = .agg cs := by
  simp only [Value.okWide, ht] at h
  obtain ⟨cs, h1, _⟩ := h
  exact ⟨cs, h1⟩
theorem form_type : TreeType Tryd.prog 24 22 (match Tryd.prog.underlying 24 with | some (.struct fs) => fs | _ => #[]) 5 where
  ht := by rw [Tryd.underlying24]
  hone := by rw [Tryd.underlying24]; kernel_rfl
  hC := by kernel_rfl
  hn := by rw [Tryd.underlying24]; rfl
  hlast := by rw [Tryd.underlying24]; rfl
  hts := Tryd.underlying22
  hB := by rw [show Tryd.prog.bytesOf 24 = 64 from by kernel_rfl]; omega
section
variable {H : Type} {enc : TypeId × Value → H} {w : World} {sp : Nat → Bool} {held : Bool} {r : Reach} {b0 : Nat}
theorem sized_at {P : Program} {ts : List TypeId} {ds : List (DataW H)} (hsz : (DataW.weightsEach P ts ds).all (· ≤ reachBytes) = true) {j : Nat} {t : TypeId} {d : DataW H} (ht : ts[j]? = some t) (hd : ds[j]? = some d) : (d.weights P t).all (· ≤ reachBytes) = true :=
  List.all_eq_true.2 fun n hn => List.all_eq_true.1 hsz n (DataW.weights_mem_each ht hd n hn)
theorem form_head : HeadOpen enc Tryd.prog w sp held (match Tryd.prog.underlying 24 with | some (.struct fs) => fs | _ => #[]) 5 FHd := by
  intro vs ds hl hf
  have each : ∀ i, i < 5 → ∃ n : Int, vs[i]? = some (.int .i64 n) ∧ i64B n := by
    intro i hi
    obtain ⟨f, v, d, ps, fuel, hfi, hv, _, ht, _⟩ := hf i hi
    have hft : f.type = 3 := by
      rw [Tryd.underlying24] at hfi
      rcases (show i = 0 ∨ i = 1 ∨ i = 2 ∨ i = 3 ∨ i = 4 by omega) with rfl | rfl | rfl | rfl | rfl <;>
        · simp at hfi
          rw [← hfi]
    rw [hft] at ht
    obtain ⟨k0, e0, _, hw0⟩ := DataW.trod_int Tryd.underlying3 ht
    simp only [List.cons.injEq, and_true] at e0
    exact ⟨k0, by rw [hv, e0], i64B_of hw0⟩
  obtain ⟨a, ha, b0⟩ := each 0 (by omega)
  obtain ⟨b, hb, b1⟩ := each 1 (by omega)
  obtain ⟨c, hc, b2⟩ := each 2 (by omega)
  obtain ⟨d, hd, b3⟩ := each 3 (by omega)
  obtain ⟨e, he, b4⟩ := each 4 (by omega)
  refine ⟨⟨a, b, c, d, e⟩, ?_, ⟨b0, b1, b2, b3, b4⟩⟩
  rcases vs with _ | ⟨v0, _ | ⟨v1, _ | ⟨v2, _ | ⟨v3, _ | ⟨v4, _ | ⟨v5, vs⟩⟩⟩⟩⟩⟩ <;> simp_all
theorem open_form {v : Value} {d : DataW H} {ps : List MemPlace} {ts : List TypeId} {ds : List (DataW H)} (hv : Value.okWide Tryd.prog w r b0 24 v) (h : DataW.Trod enc Tryd.prog w 0 sp held 24 v d ps)
    (_hsz : (DataW.weightsEach Tryd.prog ts ds).all (· ≤ reachBytes) = true) {j : Nat} (_ht : ts[j]? = some 24) (_hd : ds[j]? = some d) : ∃ x : Fm, FmR w (· < w.heap.size) v x := by
  obtain ⟨cs, rfl⟩ := okWide_struct_ Tryd.underlying24 hv
  obtain ⟨fuel, hf⟩ := h
  obtain ⟨x, hx⟩ := (open_tree_ form_type form_head fuel).1 _ _ _ hf (sized_at _hsz _ht _hd)
  have h1 := (FmR.of_tr hx).1
  rw [show (Value.agg cs).cells.toList.toArray = cs from by simp [Value.cells]] at h1
  exact ⟨x, h1⟩
end
end Go.Proofs.YtdhnfccgojgehaaDoor

namespace Go.Proofs.YtdhnfccgojgehaaDoor.readPrefix
open Go.ChangeShapes Go.WideShapes Go.ChangeAt Go.RowKit
set_option linter.unusedVariables false

theorem own : ownKnob Tryd.prog.godebug = none := by kernel_rfl
theorem laidOut : laidOutB Tryd.prog = true := by kernel_rfl

theorem door_met (os : Os) (args : Array Value) : laidMetH Tryd.prog Rows.readPrefixRow.laid ((World.doorLaid Tryd.prog 14 os).forCall (fun _ _ => 0) ⟨#[], args, []⟩).memory :=
  laidMetH_of_parts3 (fuel := 8) (laidMet_of_run' 8 (by kernel_rfl) (by kernel_rfl)) (by kernel_rfl) (by kernel_rfl)

set_option maxRecDepth 100000 in
theorem lifted (os : Os) (started : os.Started) (H : Type) (enc : TypeId × Value → H) :
    ReturnsInHanded {} Tryd.checked os 6 .any (fun w args => (Rows.readPrefixSpec.pre enc Tryd.prog Tryd.f6 [] false w args ∧ laidMetH Tryd.prog Rows.readPrefixRow.laid w) ∧ sizedMet enc Tryd.prog Tryd.f6 (OpenSpec.ofChange Rows.readPrefixSpec) false w args) (Rows.readPrefixSpec.post enc Tryd.prog Tryd.f6 false true false false) := by
  refine returnsInHanded_of_change_and (C := Tryd.checked) (X := fun w _ => laidMetH Tryd.prog Rows.readPrefixRow.laid w) (fun _ _ _ hh h => h.of_heap hh) own started (by kernel_rfl) Tryd.func6
    (ChangeSpec.witness_shaped (enc := enc) (C := Tryd.checked) (os := os) (X := fun w _ => laidMetH Tryd.prog Rows.readPrefixRow.laid w) false (World.doorLaid Tryd.prog 14 os) #[.agg #[.int .i64 0, .int .i64 0, .int .i64 0, .int .i64 0, .int .i64 0, .slice none 0 0], .slice none 0 0, .slice none 0 0] 8 rfl (World.shaped_of_RefB (by kernel_rfl) (by kernel_rfl)) (by kernel_rfl) (by kernel_rfl) (by kernel_rfl) (door_met os _)) ?_
  intro W base args ds gs before hval0 hW hcnd hsz0 hL _
  have tab := tab06 hL
  have hval : ∀ (j : Nat) t v, Tryd.f6.params[j]? = some t → args[j]? = some v → Value.okWide Tryd.prog W .any base t v := hval0
  have hW' := hW
  obtain ⟨p, q, hA0, hV, rfl, hfz, hnd⟩ := hW
  have hA : DataW.TrodAll enc Tryd.prog W 0 (fun _ => true) true Tryd.f6.params.toList args.toList ds p := hA0
  obtain ⟨rfl, rfl⟩ := trodVars_none hV
  have hsz : (DataW.weightsEach Tryd.prog (Tryd.f6.params.toList ++ []) (ds ++ [])).all (· ≤ reachBytes) = true := hsz0
  rw [List.append_nil, List.append_nil] at hsz
  rw [Tryd.params6] at hA hval hsz
  obtain ⟨v0, vs0, d0, ds0, p0, q0, hargs, rfl, rfl, h0, r0⟩ := trodAll_cons hA
  obtain ⟨v1, vs1, d1, ds1, p1, q1, rfl, rfl, rfl, h1, r1⟩ := trodAll_cons r0
  obtain ⟨v2, vs2, d2, ds2, p2, q2, rfl, rfl, rfl, h2, r2⟩ := trodAll_cons r1
  obtain ⟨rfl, rfl, rfl⟩ := trodAll_nil r2
  obtain rfl : args = #[v0, v1, v2] := by cases args; simp_all
  have k0 := h0
  have lt0 : ∀ x ∈ p0, x.block < W.heap.size := by obtain ⟨m, hm⟩ := k0; exact DataW.trod_lt m _ _ _ hm
  have k1 := h1
  have lt1 : ∀ x ∈ p1, x.block < W.heap.size := by obtain ⟨m, hm⟩ := k1; exact DataW.trod_lt m _ _ _ hm
  have k2 := h2
  have lt2 : ∀ x ∈ p2, x.block < W.heap.size := by obtain ⟨m, hm⟩ := k2; exact DataW.trod_lt m _ _ _ hm
  obtain ⟨l0, b0⟩ := open_form (hval 0 24 v0 rfl rfl) h0 (_hsz := hsz) (j := 0) rfl rfl
  obtain ⟨l1, b1, e1⟩ := open_br Tryd.underlying25 Tryd.underlying5 (by kernel_rfl) (hval 1 25 v1 rfl rfl) h1
  have s1 := sized_len hsz (j := 1) (t := 25) (e := 5) rfl rfl Tryd.underlying25 e1
  rw [show Tryd.prog.bytesOf 5 = 1 from by kernel_rfl] at s1
  obtain ⟨l2, b2, e2⟩ := open_br Tryd.underlying25 Tryd.underlying5 (by kernel_rfl) (hval 2 25 v2 rfl rfl) h2
  have s2 := sized_len hsz (j := 2) (t := 25) (e := 5) rfl rfl Tryd.underlying25 e2
  rw [show Tryd.prog.bytesOf 5 = 1 from by kernel_rfl] at s2
  clear hA0 hval0 hsz0
  refine (rprefix_walk W tab v0 l0 b0 v1 l1 b1 (by omega) v2 l2 b2 (by omega)).mono fun e W' ⟨he, bel⟩ => ?_
  subst he
  exact ⟨_, rfl, _, _, _, [], _, [], hW', trodAll_mk1 (shut_bool Tryd.underlying4 _), (trodAll_cons_mk (Below.trod laidOut (by kernel_rfl) (of_decide_eq_true (by kernel_rfl)) k0 bel lt0) (trodAll_cons_mk (Below.trod laidOut (by kernel_rfl) (of_decide_eq_true (by kernel_rfl)) k1 bel lt1) (trodAll_cons_mk (Below.trod laidOut (by kernel_rfl) (of_decide_eq_true (by kernel_rfl)) k2 bel lt2) trodAll_mk0))), rfl, bel.frame _, fun h => by cases h⟩

theorem over : Rows.readPrefixRow.holds Tryd.pinned (OpenSpec.ofChange Rows.readPrefixSpec) :=
  OpenClaim.holds_of_wide 6 Tryd.f6 rfl rfl rfl rfl rfl rfl rfl ⟨rfl, rfl, rfl, rfl, rfl⟩ rfl rfl rfl rfl rfl (by kernel_rfl) Tryd.func6 (by kernel_rfl)
    (of_decide_eq_true (by kernel_rfl)) (by unfold Func.isWrapper; first | (rw [if_pos (by decide +kernel)]; kernel_rfl) | (rw [if_neg (by decide +kernel)]; exact ⟨rfl, rfl⟩))
    (fun os started H enc _ => lifted os started H enc)

/-- The tied card. -/
theorem proved : Rows.ReadPrefixCardSaid :=
  Claim7.holds_tied_plain_at .later [] [.funcs] true (true, "e0098d0829a2599098fefe819577bd5761af052264c8981f1d992b28d8fe1bea") false
    over (fun _ h => by cases h) (by kernel_rfl) (fun _ h => by cases h) readPrefix_row_tie rfl ⟨rfl, rfl⟩ (by kernel_rfl) rfl
    (fun f fn hf hfn => by
      obtain rfl : f = 6 := Option.some.inj ((show Tryd.prog.funcNamed "passepartout/passepartoutlaw06.ReadPrefix" = some 6 by kernel_rfl).symm.trans hf) |>.symm
      obtain rfl : fn = Tryd.f6 := (Option.some.inj (Tryd.func6.symm.trans hfn)).symm
      exact ⟨by kernel_rfl, fun j t ht => by
        rw [Tryd.params6] at ht
        have hm : t ∈ [24, 25, 25] := by simpa using Array.mem_of_getElem? ht
        have hall : ([24, 25, 25].all fun u => !Tryd.prog.wantsStandIn u) = true := by kernel_rfl
        exact (show Tryd.prog.wantsStandIn t = false by simpa using List.all_eq_true.1 hall t hm)⟩)
    (by kernel_rfl)
#print axioms proved
end Go.Proofs.YtdhnfccgojgehaaDoor.readPrefix
