/-
  Texts for the law ReadFits: part 3.
-/
import Derived.Laws.BitsAllLaws
import Derived.Laws.Bits64
import Derived.RowKit
import Derived.Test.YtdhnfccgojgehaaDoorProg
import Derived.Deep.QuietTactic
import Derived.BigQuiet
import Derived.Deep.RegionHeld3
import Derived.Deep.RegionWith
import Derived.Laws.LoneSync
import Derived.Test.YtdhnfccgojgehaaDoorRows
import Derived.LaidHandle
import Derived.LaidMore
import Derived.Test.YtdhnfccgojgehaaDoorMReadFits1
import Derived.Test.YtdhnfccgojgehaaDoorMReadFits2

set_option linter.unusedVariables false
set_option linter.unusedSimpArgs false
namespace Go.Proofs.YtdhnfccgojgehaaDoor.QP
open Go.RowKit Go.Proofs.YtdhnfccgojgehaaDoorW.PrintWords Go.Proofs.YtdhnfccgojgehaaDoorW.PrintLast Go.Proofs.YtdhnfccgojgehaaDoorW.PrintMore
attribute [local go_sem] max2_int min2_int max_two min_two max_three min_three max_four min_four   -- for this text's walks alone
set_option linter.unusedVariables false
set_option linter.unusedSimpArgs false

/-! ### passepartoutlaw05_Great: function 25 -/
def passepartoutlaw05_Great.l0 : Nat → List (S31) → Int → Int → Option (Int)
 | 0, _, _, _ => none
 | k + 1, x10, x11, x12 => if x12 < x11 then (if 0 ≤ x12 then (if x12 < (x10.length : Int) then ((passepartoutref05_Count.f k ((rd_T31 x10 x12).f0) ((rd_T31 x10 x12).f1) ((rd_T31 x10 x12).f2) 2000).bind fun t168 => (if t168 > 2000 then (some 1) else ((passepartoutref05_Bytes.f k ((rd_T31 x10 x12).f0) ((rd_T31 x10 x12).f1) ((rd_T31 x10 x12).f2) 20000).bind fun t169 => (if t169 > 20000 then (some 1) else (passepartoutlaw05_Great.l0 k x10 x11 (wrap64 (x12 + 1))))))) else (none)) else (none)) else (some 0)
def passepartoutlaw05_Great.f (k : Nat) (a0_0 : Int) (a0_1 : Int) (a0_2 : Int) (a0_3 : Int) (a0_4 : Int) (l0_5 : List (S24)) (l1 : List (S31)) : Option (Int) := (passepartoutref04_Count.f k a0_0 a0_1 a0_2 a0_3 a0_4 l0_5 500).bind fun t165 => (if t165 > 500 then (some 1) else (passepartoutlaw05_Great.l0 k l1 (l1.length : Int) 0))
theorem passepartoutlaw05_Great.mono_l : ∀ k, (∀ y0 y1 y2, LeO (passepartoutlaw05_Great.l0 k y0 y1 y2) (passepartoutlaw05_Great.l0 (k + 1) y0 y1 y2))
 | 0 => fun _ _ _ r h => by simp [passepartoutlaw05_Great.l0] at h
 | k + 1 => by
  have ih0 := passepartoutlaw05_Great.mono_l k
  ·intro y0 y1 y2
   unfold passepartoutlaw05_Great.l0
   repeat' first
   | (with_reducible exact ih0 _ _ _)
   | (with_reducible exact passepartoutref04_Count.mono _ _ _ _ _ _ _ _)
   | (with_reducible exact passepartoutref05_Bytes.mono _ _ _ _ _)
   | (with_reducible exact passepartoutref05_Count.mono _ _ _ _ _)
   | (with_reducible exact LeO.refl _)
   | (with_reducible exact LeO.none _)
   | (with_reducible refine LeO.ite ?_ ?_)
   | (with_reducible refine LeO.bind ?_ (fun _ => ?_))
   | exact ih0 _ _ _
   | exact passepartoutref04_Count.mono _ _ _ _ _ _ _ _
   | exact passepartoutref05_Bytes.mono _ _ _ _ _
   | exact passepartoutref05_Count.mono _ _ _ _ _
   | exact LeO.none _
   | refine LeO.ite ?_ ?_
   | refine LeO.bind ?_ (fun _ => ?_)
theorem passepartoutlaw05_Great.mono : ∀ a0 a1 a2 a3 a4 a5 a6 k, LeO (passepartoutlaw05_Great.f k a0 a1 a2 a3 a4 a5 a6) (passepartoutlaw05_Great.f (k + 1) a0 a1 a2 a3 a4 a5 a6) := by
 intro a0 a1 a2 a3 a4 a5 a6 k
 have ih0 := passepartoutlaw05_Great.mono_l k
 unfold passepartoutlaw05_Great.f
 repeat' first
   | (with_reducible exact ih0 _ _ _)
   | (with_reducible exact passepartoutref04_Count.mono _ _ _ _ _ _ _ _)
   | (with_reducible exact passepartoutref05_Bytes.mono _ _ _ _ _)
   | (with_reducible exact passepartoutref05_Count.mono _ _ _ _ _)
   | (with_reducible exact LeO.refl _)
   | (with_reducible exact LeO.none _)
   | (with_reducible refine LeO.ite ?_ ?_)
   | (with_reducible refine LeO.bind ?_ (fun _ => ?_))
   | exact ih0 _ _ _
   | exact passepartoutref04_Count.mono _ _ _ _ _ _ _ _
   | exact passepartoutref05_Bytes.mono _ _ _ _ _
   | exact passepartoutref05_Count.mono _ _ _ _ _
   | exact LeO.none _
   | refine LeO.ite ?_ ?_
   | refine LeO.bind ?_ (fun _ => ?_)
set_option maxHeartbeats 8000000 in
set_option maxRecDepth 100000 in
theorem passepartoutlaw05_Great.calls (k : Nat) (a0_0 : Int) (a0_1 : Int) (a0_2 : Int) (a0_3 : Int) (a0_4 : Int) (A0_5 : Option Addr) (c0_5 : Nat) (l0_5 : List (S24)) (A1 : Option Addr) (c1 : Nat) (l1 : List (S31)) (r : Int) (w : World) (hr0_5 : Kd.C k24 w A0_5 l0_5.length l0_5) (hc0_5 : l0_5.length ≤ c0_5) (hr1 : Kd.C k31 w A1 l1.length l1) (hc1 : l1.length ≤ c1) (h : passepartoutlaw05_Great.f k a0_0 a0_1 a0_2 a0_3 a0_4 l0_5 l1 = some r) :
  Calls Tryd.prog 25 #[.agg #[.int .i64 a0_0, .int .i64 a0_1, .int .i64 a0_2, .int .i64 a0_3, .int .i64 a0_4, .slice A0_5 l0_5.length c0_5], .slice A1 l1.length c1] w fun e w' => e = .returned (.int .i64 r) ∧ Below w.heap.size w w' := by
 have hu24 := Tryd.underlying24
 have hu31 := Tryd.underlying31
 have HR0_5 := Aside0.mk hr0_5
 have HC0_5 := Aside0.mk hc0_5
 clear hr0_5 hc0_5
 have HR1 := Aside0.mk hr1
 have HC1 := Aside0.mk hc1
 clear hr1 hc1
 have HB := Aside0.mk (Below.refl w.heap.size w)
 have H : ((passepartoutref04_Count.f k a0_0 a0_1 a0_2 a0_3 a0_4 l0_5 500).bind fun t165 => (if t165 > 500 then (some 1) else (passepartoutlaw05_Great.l0 k l1 (l1.length : Int) 0))) = some r := h
 clear h
 replace H := Option.bind_eq_some_iff.mp H
 obtain ⟨t165, A30, H⟩ := H
 replace H : (if t165 > 500 then (some 1) else (passepartoutlaw05_Great.l0 k l1 (l1.length : Int) 0)) = some r := H
 have A3 := Aside0.mk A30
 clear A30
 by_cases c4 : t165 > 500
 ·rw [if_pos c4] at H
  have c4b0 : decide (500 < t165) = true := decide_eq_true c4
  clear c4
  obtain rfl := Option.some.inj H
  go_enter Tryd.func25, Tryd.ntmps25
  go_wp2_with (first | ((with_reducible refine gate_dst (N := 2) rfl ?_); refine box_event ?hg (N := 2) ?hd (cs := #[.int .i64 a0_0, .int .i64 a0_1, .int .i64 a0_2, .int .i64 a0_3, .int .i64 a0_4, .slice A0_5 l0_5.length c0_5]) (t := 24) ?hr ?_; (case hd => rfl); (case hg => rfl); (case hr => first | (go_simp; done) | (go_simp; rfl)); intro gb164 hg w5 hbox hb; have n0_ := Aside0.mk (below_step (by repeat (first | (with_reducible first | exact HB.out | apply below_alloc | apply pw_below_drewN | apply below_drew1) | exact HB.out)) hb); have n1_ := Aside0.mk (hbox); have n2_ := Aside0.mk ((by rw [hg]; exact (below_size (by repeat (first | (with_reducible first | exact HB.out | apply below_alloc | apply pw_below_drewN | apply below_drew1) | exact HB.out))) : w.heap.size ≤ gb164)); have n3_ := Aside0.mk ((by rw [hg]; exact (below_size (by repeat (first | (with_reducible first | exact HB.out | apply below_alloc | apply pw_below_drewN | apply below_drew1) | exact HB.out))) : w.heap.size ≤ gb164)); clear HB; have HB := n0_; have BK164 := n1_; have GW164 := n2_; have GE164 := n3_; clear n0_ n1_ n2_ n3_; clear hb hbox hg; have hcz6_0 : w5.cell? ⟨gb164, 0, none⟩ = some (.int .i64 a0_0) := (blk_cell BK164.out 0).trans rfl; have hcz6_1 : w5.cell? ⟨gb164, 1, none⟩ = some (.int .i64 a0_1) := (blk_cell BK164.out 1).trans rfl; have hcz6_2 : w5.cell? ⟨gb164, 2, none⟩ = some (.int .i64 a0_2) := (blk_cell BK164.out 2).trans rfl; have hcz6_3 : w5.cell? ⟨gb164, 3, none⟩ = some (.int .i64 a0_3) := (blk_cell BK164.out 3).trans rfl; have hcz6_4 : w5.cell? ⟨gb164, 4, none⟩ = some (.int .i64 a0_4) := (blk_cell BK164.out 4).trans rfl; have hcz6_5 : w5.cell? ⟨gb164, 5, none⟩ = some (.slice A0_5 l0_5.length c0_5) := (blk_cell BK164.out 5).trans rfl; have hfz6_0 := blk_frozen BK164.out 0; have hfz6_1 := blk_frozen BK164.out 1; have hfz6_2 := blk_frozen BK164.out 2; have hfz6_3 := blk_frozen BK164.out 3; have hfz6_4 := blk_frozen BK164.out 4; have hfz6_5 := blk_frozen BK164.out 5) | ((with_reducible refine gate_callee (f := 22) rfl ?_); refine goesL_ (some 8) rfl rfl Tryd.func22 (by kernel_rfl) rfl #[.agg #[.int .i64 a0_0, .int .i64 a0_1, .int .i64 a0_2, .int .i64 a0_3, .int .i64 a0_4, .slice A0_5 l0_5.length c0_5], .int .i64 500] rfl (by (try simp only [List.map_toArray, List.map_cons, List.map_nil]); first | done | rfl | (simp only [List.length_drop, List.length_take]; rfl)) ?_; (with_reducible refine (passepartoutref04_Count.calls k a0_0 a0_1 a0_2 a0_3 a0_4 _ _ l0_5 500 t165 _ ?side1 ?side2 A3.out).mono ?_); (case side1 => repeat (first | exact (Kd.C_below HR0_5.out HB.out) | (with_reducible refine Kd.C_alloc ?_ _) | (with_reducible refine Kd.C_drewN ?_ _) | (with_reducible refine Kd.C_drew ?_))); (case side2 => exact HC0_5.out); rintro e w7 ⟨rfl, hb⟩; refine ⟨_, rfl, ?_⟩; have n0_ := Aside0.mk (blk_below (g := gb164) (o := .cells #[.int .i64 a0_0, .int .i64 a0_1, .int .i64 a0_2, .int .i64 a0_3, .int .i64 a0_4, .slice A0_5 l0_5.length c0_5] 24 (0, 0)) (by (with_reducible repeat (first | refine blk_drewN ?_ _ | refine blk_drew ?_ | refine blk_alloc ?_ _)); exact BK164.out) hb); have n1_ := Aside0.mk (below_step (by repeat (first | (with_reducible first | exact HB.out | apply below_alloc | apply pw_below_drewN | apply below_drew1 | refine below_set ?_ GE164.out) | exact HB.out)) hb); clear BK164; clear HB; have BK164 := n0_; have HB := n1_; clear n0_ n1_; (try clear hb); (try clear hb2); (try clear hk); (try clear hi)))
  go_ret
  exact ⟨by first | rfl | (simp [errW_none, errW_some] <;> rfl) | (simp [*, errW_none, errW_some] <;> rfl), by repeat (first | (with_reducible first | exact HB.out | apply below_alloc | apply pw_below_drewN | apply below_drew1 | refine below_set ?_ GE164.out) | exact HB.out)⟩
 ·rw [if_neg c4] at H
  have c4b0 : decide (500 < t165) = false := decide_eq_false c4
  clear c4
  have H' := Aside0.mk H
  clear H
  go_enter Tryd.func25, Tryd.ntmps25
  go_wp2_with (first | ((with_reducible refine gate_dst (N := 2) rfl ?_); refine box_event ?hg (N := 2) ?hd (cs := #[.int .i64 a0_0, .int .i64 a0_1, .int .i64 a0_2, .int .i64 a0_3, .int .i64 a0_4, .slice A0_5 l0_5.length c0_5]) (t := 24) ?hr ?_; (case hd => rfl); (case hg => rfl); (case hr => first | (go_simp; done) | (go_simp; rfl)); intro gb164 hg w8 hbox hb; have n0_ := Aside0.mk (below_step (by repeat (first | (with_reducible first | exact HB.out | apply below_alloc | apply pw_below_drewN | apply below_drew1) | exact HB.out)) hb); have n1_ := Aside0.mk (hbox); have n2_ := Aside0.mk ((by rw [hg]; exact (below_size (by repeat (first | (with_reducible first | exact HB.out | apply below_alloc | apply pw_below_drewN | apply below_drew1) | exact HB.out))) : w.heap.size ≤ gb164)); have n3_ := Aside0.mk ((by rw [hg]; exact (below_size (by repeat (first | (with_reducible first | exact HB.out | apply below_alloc | apply pw_below_drewN | apply below_drew1) | exact HB.out))) : w.heap.size ≤ gb164)); clear HB; have HB := n0_; have BK164 := n1_; have GW164 := n2_; have GE164 := n3_; clear n0_ n1_ n2_ n3_; clear hb hbox hg; have hcz9_0 : w8.cell? ⟨gb164, 0, none⟩ = some (.int .i64 a0_0) := (blk_cell BK164.out 0).trans rfl; have hcz9_1 : w8.cell? ⟨gb164, 1, none⟩ = some (.int .i64 a0_1) := (blk_cell BK164.out 1).trans rfl; have hcz9_2 : w8.cell? ⟨gb164, 2, none⟩ = some (.int .i64 a0_2) := (blk_cell BK164.out 2).trans rfl; have hcz9_3 : w8.cell? ⟨gb164, 3, none⟩ = some (.int .i64 a0_3) := (blk_cell BK164.out 3).trans rfl; have hcz9_4 : w8.cell? ⟨gb164, 4, none⟩ = some (.int .i64 a0_4) := (blk_cell BK164.out 4).trans rfl; have hcz9_5 : w8.cell? ⟨gb164, 5, none⟩ = some (.slice A0_5 l0_5.length c0_5) := (blk_cell BK164.out 5).trans rfl; have hfz9_0 := blk_frozen BK164.out 0; have hfz9_1 := blk_frozen BK164.out 1; have hfz9_2 := blk_frozen BK164.out 2; have hfz9_3 := blk_frozen BK164.out 3; have hfz9_4 := blk_frozen BK164.out 4; have hfz9_5 := blk_frozen BK164.out 5) | ((with_reducible refine gate_callee (f := 22) rfl ?_); refine goesL_ (some 8) rfl rfl Tryd.func22 (by kernel_rfl) rfl #[.agg #[.int .i64 a0_0, .int .i64 a0_1, .int .i64 a0_2, .int .i64 a0_3, .int .i64 a0_4, .slice A0_5 l0_5.length c0_5], .int .i64 500] rfl (by (try simp only [List.map_toArray, List.map_cons, List.map_nil]); first | done | rfl | (simp only [List.length_drop, List.length_take]; rfl)) ?_; (with_reducible refine (passepartoutref04_Count.calls k a0_0 a0_1 a0_2 a0_3 a0_4 _ _ l0_5 500 t165 _ ?side1 ?side2 A3.out).mono ?_); (case side1 => repeat (first | exact (Kd.C_below HR0_5.out HB.out) | (with_reducible refine Kd.C_alloc ?_ _) | (with_reducible refine Kd.C_drewN ?_ _) | (with_reducible refine Kd.C_drew ?_))); (case side2 => exact HC0_5.out); rintro e w10 ⟨rfl, hb⟩; refine ⟨_, rfl, ?_⟩; have n0_ := Aside0.mk (blk_below (g := gb164) (o := .cells #[.int .i64 a0_0, .int .i64 a0_1, .int .i64 a0_2, .int .i64 a0_3, .int .i64 a0_4, .slice A0_5 l0_5.length c0_5] 24 (0, 0)) (by (with_reducible repeat (first | refine blk_drewN ?_ _ | refine blk_drew ?_ | refine blk_alloc ?_ _)); exact BK164.out) hb); have n1_ := Aside0.mk (below_step (by repeat (first | (with_reducible first | exact HB.out | apply below_alloc | apply pw_below_drewN | apply below_drew1 | refine below_set ?_ GE164.out) | exact HB.out)) hb); clear BK164; clear HB; have BK164 := n0_; have HB := n1_; clear n0_ n1_; (try clear hb); (try clear hb2); (try clear hk); (try clear hi)))
  go_loopg [12] k (fun kq v12 w' => ∃ (x12_1 : Int), v12 = .int .i64 x12_1 ∧ Aside0 (passepartoutlaw05_Great.l0 kq l1 (l1.length : Int) x12_1 = some r) ∧ Aside0 (kq ≤ k) ∧ Aside0 (w'.heap[gb164]? = some (.cells #[.int .i64 a0_0, .int .i64 a0_1, .int .i64 a0_2, .int .i64 a0_3, .int .i64 a0_4, (.slice A0_5 l0_5.length c0_5)] 24 (0, 0))) ∧ Aside0 (Below w.heap.size w w'))
  case atStart => exact ⟨(0), (by first | rfl | (simp; done) | (simp [*]; done)), H', ⟨Nat.le_refl _⟩, ⟨by (with_reducible repeat (first | refine blk_drewN ?_ _ | refine blk_drew ?_ | refine blk_alloc ?_ _)); exact BK164.out⟩, ⟨by repeat (first | (with_reducible first | exact HB.out | apply below_alloc | apply pw_below_drewN | apply below_drew1 | refine below_set ?_ GE164.out) | exact HB.out)⟩⟩
  case round =>
   clear H'
   try clear c1
   try clear c2
   try clear p2
   try clear c4
   try clear c4b0
   try clear hcz6_0
   try clear hcz6_1
   try clear hcz6_2
   try clear hcz6_3
   try clear hcz6_4
   try clear hcz6_5
   try clear hcz9_0
   try clear hcz9_1
   try clear hcz9_2
   try clear hcz9_3
   try clear hcz9_4
   try clear hcz9_5
   try clear hfz6_0
   try clear hfz6_1
   try clear hfz6_2
   try clear hfz6_3
   try clear hfz6_4
   try clear hfz6_5
   try clear hfz9_0
   try clear hfz9_1
   try clear hfz9_2
   try clear hfz9_3
   try clear hfz9_4
   try clear hfz9_5
   obtain ⟨x12_1, rfl, HA, HK1, BK164, HB⟩ := hrel
   cases gk with
   | zero => exact absurd HA.out (by simp [passepartoutlaw05_Great.l0])
   | succ k1 =>
    have H := HA.out
    clear HA
    simp only [passepartoutlaw05_Great.l0] at H
    by_cases c11 : x12_1 < (l1.length : Int)
    ·rw [if_pos c11] at H
     have c11b0 : decide (x12_1 < (l1.length : Int)) = true := decide_eq_true c11
     clear c11
     by_cases c12 : 0 ≤ x12_1
     ·rw [if_pos c12] at H
      have c12b0 : decide (0 ≤ x12_1) = true := decide_eq_true c12
      clear c12
      by_cases c13 : x12_1 < (l1.length : Int)
      ·rw [if_pos c13] at H
       have c13b0 : decide (x12_1 < (l1.length : Int)) = true := decide_eq_true c13
       clear c13
       replace H := Option.bind_eq_some_iff.mp H
       obtain ⟨t168, A140, H⟩ := H
       replace H : (if t168 > 2000 then (some 1) else ((passepartoutref05_Bytes.f k1 ((rd_T31 l1 x12_1).f0) ((rd_T31 l1 x12_1).f1) ((rd_T31 l1 x12_1).f2) 20000).bind fun t169 => (if t169 > 20000 then (some 1) else (passepartoutlaw05_Great.l0 k1 l1 (l1.length : Int) (wrap64 (x12_1 + 1)))))) = some r := H
       have A14 := Aside0.mk A140
       clear A140
       by_cases c15 : t168 > 2000
       ·rw [if_pos c15] at H
        have c15b0 : decide (2000 < t168) = true := decide_eq_true c15
        clear c15
        obtain rfl := Option.some.inj H
        have p166 : 0 ≤ (x12_1 : Int) := of_decide_eq_true (by first | (with_reducible assumption) | assumption)
        have q166 : x12_1 < (l1.length : Int) := of_decide_eq_true (by first | (with_reducible assumption) | assumption)
        obtain ⟨ad166, A166_1, c166_1, A166_2, c166_2, e166, hx166_0, hx166_1, hx166_2, hl166_1, hi166_1, hl166_2, hi166_2⟩ := at_T31 HR1.out x12_1 p166 q166
        cases e166
        replace hx166_0 := (HB.out.cell (World.block_lt_of_cell? w _ hx166_0)).trans hx166_0
        replace hx166_1 := (HB.out.cell (World.block_lt_of_cell? w _ hx166_1)).trans hx166_1
        replace hx166_2 := (HB.out.cell (World.block_lt_of_cell? w _ hx166_2)).trans hx166_2
        have HR166_1 := Aside0.mk hi166_1
        have HC166_1 := Aside0.mk hl166_1
        clear hi166_1 hl166_1
        have HR166_2 := Aside0.mk hi166_2
        have HC166_2 := Aside0.mk hl166_2
        clear hi166_2 hl166_2
        replace p166 := eq_true p166
        replace q166 := eq_true q166
        go_wp2_with (first | ((with_reducible refine gate_dst (N := 6) rfl ?_); refine box_event ?hg (N := 6) ?hd (cs := #[.int .u64 0, .slice none 0 0, .slice none 0 0]) (t := 31) ?hr ?_; (case hd => rfl); (case hg => rfl); (case hr => first | (go_simp; done) | (go_simp; rfl)); intro gb167 hg w16 hbox hb; have n0_ := Aside0.mk (blk_below (g := gb164) (o := .cells #[.int .i64 a0_0, .int .i64 a0_1, .int .i64 a0_2, .int .i64 a0_3, .int .i64 a0_4, .slice A0_5 l0_5.length c0_5] 24 (0, 0)) (by (with_reducible repeat (first | refine blk_drewN ?_ _ | refine blk_drew ?_ | refine blk_alloc ?_ _)); exact BK164.out) hb); have n1_ := Aside0.mk (below_step (by repeat (first | (with_reducible first | exact HB.out | apply below_alloc | apply pw_below_drewN | apply below_drew1 | refine below_set ?_ GE164.out) | exact HB.out)) hb); have n2_ := Aside0.mk (hbox); have n3_ := Aside0.mk ((by rw [hg]; exact (below_size (by repeat (first | (with_reducible first | exact HB.out | apply below_alloc | apply pw_below_drewN | apply below_drew1 | refine below_set ?_ GE164.out) | exact HB.out))) : w.heap.size ≤ gb167)); have n4_ := Aside0.mk ((by rw [hg]; exact (below_size (by repeat (first | (with_reducible first | exact HB.out | apply below_alloc | apply pw_below_drewN | apply below_drew1 | refine below_set ?_ GE164.out) | exact HB.out))) : w.heap.size ≤ gb167)); have n5_ := Aside0.mk ((by rw [hg]; exact Nat.ne_of_lt (blk_lt (g := gb164) (o := .cells #[.int .i64 a0_0, .int .i64 a0_1, .int .i64 a0_2, .int .i64 a0_3, .int .i64 a0_4, .slice A0_5 l0_5.length c0_5] 24 (0, 0)) (by (with_reducible repeat (first | refine blk_drewN ?_ _ | refine blk_drew ?_ | refine blk_alloc ?_ _)); exact BK164.out)) : gb164 ≠ gb167)); have n6_ := Aside0.mk ((by rw [hg]; exact Nat.ne_of_gt (blk_lt (g := gb164) (o := .cells #[.int .i64 a0_0, .int .i64 a0_1, .int .i64 a0_2, .int .i64 a0_3, .int .i64 a0_4, .slice A0_5 l0_5.length c0_5] 24 (0, 0)) (by (with_reducible repeat (first | refine blk_drewN ?_ _ | refine blk_drew ?_ | refine blk_alloc ?_ _)); exact BK164.out)) : gb167 ≠ gb164)); clear BK164; clear HB; have BK164 := n0_; have HB := n1_; have BK167 := n2_; have GW167 := n3_; have GE167 := n4_; have NB164_167 := n5_; have NB167_164 := n6_; clear n0_ n1_ n2_ n3_ n4_ n5_ n6_; clear hb hbox hg; have hnb17 := NB167_164.out; have hnc17 := NB164_167.out; have hcz18_0 : w16.cell? ⟨gb167, 0, none⟩ = some (.int .u64 0) := (blk_cell BK167.out 0).trans rfl; have hcz18_1 : w16.cell? ⟨gb167, 1, none⟩ = some (.slice none 0 0) := (blk_cell BK167.out 1).trans rfl; have hcz18_2 : w16.cell? ⟨gb167, 2, none⟩ = some (.slice none 0 0) := (blk_cell BK167.out 2).trans rfl; have hfz18_0 := blk_frozen BK167.out 0; have hfz18_1 := blk_frozen BK167.out 1; have hfz18_2 := blk_frozen BK167.out 2) | ((with_reducible refine gate_callee (f := 33) rfl ?_); refine goesL_ (some 17) rfl rfl Tryd.func33 (by kernel_rfl) rfl #[.agg #[.int .u64 ((rd_T31 l1 x12_1).f0), .slice A166_1 ((rd_T31 l1 x12_1).f1).length c166_1, .slice A166_2 ((rd_T31 l1 x12_1).f2).length c166_2], .int .i64 2000] rfl (by (try simp only [List.map_toArray, List.map_cons, List.map_nil]); first | done | rfl | (simp only [List.length_drop, List.length_take]; rfl)) ?_; (with_reducible refine (passepartoutref05_Count.calls k1 ((rd_T31 l1 x12_1).f0) _ _ ((rd_T31 l1 x12_1).f1) _ _ ((rd_T31 l1 x12_1).f2) 2000 t168 _ ?side1 ?side2 ?side3 ?side4 A14.out).mono ?_); (case side1 => exact Kd.C_below HR166_1.out (by repeat (first | (with_reducible first | exact HB.out | apply below_alloc | apply pw_below_drewN | apply below_drew1 | refine below_set ?_ GE164.out | refine below_set ?_ GE167.out) | exact HB.out))); (case side2 => exact HC166_1.out); (case side3 => exact Kd.C_below HR166_2.out (by repeat (first | (with_reducible first | exact HB.out | apply below_alloc | apply pw_below_drewN | apply below_drew1 | refine below_set ?_ GE164.out | refine below_set ?_ GE167.out) | exact HB.out))); (case side4 => exact HC166_2.out); rintro e w19 ⟨rfl, hb⟩; refine ⟨_, rfl, ?_⟩; have n0_ := Aside0.mk (blk_below (g := gb164) (o := .cells #[.int .i64 a0_0, .int .i64 a0_1, .int .i64 a0_2, .int .i64 a0_3, .int .i64 a0_4, .slice A0_5 l0_5.length c0_5] 24 (0, 0)) (by (with_reducible repeat (first | refine blk_drewN ?_ _ | refine blk_drew ?_ | refine blk_alloc ?_ _)); refine blk_far ?_ NB164_167.out _; (with_reducible repeat (first | refine blk_drewN ?_ _ | refine blk_drew ?_ | refine blk_alloc ?_ _)); refine blk_far ?_ NB164_167.out _; (with_reducible repeat (first | refine blk_drewN ?_ _ | refine blk_drew ?_ | refine blk_alloc ?_ _)); refine blk_far ?_ NB164_167.out _; (with_reducible repeat (first | refine blk_drewN ?_ _ | refine blk_drew ?_ | refine blk_alloc ?_ _)); exact BK164.out) hb); have n1_ := Aside0.mk (blk_below (g := gb167) (o := .cells #[.int .u64 ((rd_T31 l1 x12_1).f0), .slice A166_1 ((rd_T31 l1 x12_1).f1).length c166_1, .slice A166_2 ((rd_T31 l1 x12_1).f2).length c166_2] 31 (0, 0)) (by (with_reducible repeat (first | refine blk_drewN ?_ _ | refine blk_drew ?_ | refine blk_alloc ?_ _)); refine blk_put (cs := #[.int .u64 ((rd_T31 l1 x12_1).f0), .slice A166_1 ((rd_T31 l1 x12_1).f1).length c166_1, .slice none 0 0]) ?_ 2 _ rfl; (with_reducible repeat (first | refine blk_drewN ?_ _ | refine blk_drew ?_ | refine blk_alloc ?_ _)); refine blk_put (cs := #[.int .u64 ((rd_T31 l1 x12_1).f0), .slice none 0 0, .slice none 0 0]) ?_ 1 _ rfl; (with_reducible repeat (first | refine blk_drewN ?_ _ | refine blk_drew ?_ | refine blk_alloc ?_ _)); refine blk_put (cs := #[.int .u64 0, .slice none 0 0, .slice none 0 0]) ?_ 0 _ rfl; (with_reducible repeat (first | refine blk_drewN ?_ _ | refine blk_drew ?_ | refine blk_alloc ?_ _)); exact BK167.out) hb); have n2_ := Aside0.mk (below_step (by repeat (first | (with_reducible first | exact HB.out | apply below_alloc | apply pw_below_drewN | apply below_drew1 | refine below_set ?_ GE164.out | refine below_set ?_ GE167.out) | exact HB.out)) hb); clear BK164; clear BK167; clear HB; have BK164 := n0_; have BK167 := n1_; have HB := n2_; clear n0_ n1_ n2_; (try clear hb); (try clear hb2); (try clear hk); (try clear hi)))
        go_ret
        exact ⟨by first | rfl | (simp [errW_none, errW_some] <;> rfl) | (simp [*, errW_none, errW_some] <;> rfl), by repeat (first | (with_reducible first | exact HB.out | apply below_alloc | apply pw_below_drewN | apply below_drew1 | refine below_set ?_ GE164.out | refine below_set ?_ GE167.out) | exact HB.out)⟩
       ·rw [if_neg c15] at H
        have c15b0 : decide (2000 < t168) = false := decide_eq_false c15
        clear c15
        replace H := Option.bind_eq_some_iff.mp H
        obtain ⟨t169, A200, H⟩ := H
        replace H : (if t169 > 20000 then (some 1) else (passepartoutlaw05_Great.l0 k1 l1 (l1.length : Int) (wrap64 (x12_1 + 1)))) = some r := H
        have A20 := Aside0.mk A200
        clear A200
        by_cases c21 : t169 > 20000
        ·rw [if_pos c21] at H
         have c21b0 : decide (20000 < t169) = true := decide_eq_true c21
         clear c21
         obtain rfl := Option.some.inj H
         have p166 : 0 ≤ (x12_1 : Int) := of_decide_eq_true (by first | (with_reducible assumption) | assumption)
         have q166 : x12_1 < (l1.length : Int) := of_decide_eq_true (by first | (with_reducible assumption) | assumption)
         obtain ⟨ad166, A166_1, c166_1, A166_2, c166_2, e166, hx166_0, hx166_1, hx166_2, hl166_1, hi166_1, hl166_2, hi166_2⟩ := at_T31 HR1.out x12_1 p166 q166
         cases e166
         replace hx166_0 := (HB.out.cell (World.block_lt_of_cell? w _ hx166_0)).trans hx166_0
         replace hx166_1 := (HB.out.cell (World.block_lt_of_cell? w _ hx166_1)).trans hx166_1
         replace hx166_2 := (HB.out.cell (World.block_lt_of_cell? w _ hx166_2)).trans hx166_2
         have HR166_1 := Aside0.mk hi166_1
         have HC166_1 := Aside0.mk hl166_1
         clear hi166_1 hl166_1
         have HR166_2 := Aside0.mk hi166_2
         have HC166_2 := Aside0.mk hl166_2
         clear hi166_2 hl166_2
         replace p166 := eq_true p166
         replace q166 := eq_true q166
         go_wp2_with (first | ((with_reducible refine gate_dst (N := 6) rfl ?_); refine box_event ?hg (N := 6) ?hd (cs := #[.int .u64 0, .slice none 0 0, .slice none 0 0]) (t := 31) ?hr ?_; (case hd => rfl); (case hg => rfl); (case hr => first | (go_simp; done) | (go_simp; rfl)); intro gb167 hg w22 hbox hb; have n0_ := Aside0.mk (blk_below (g := gb164) (o := .cells #[.int .i64 a0_0, .int .i64 a0_1, .int .i64 a0_2, .int .i64 a0_3, .int .i64 a0_4, .slice A0_5 l0_5.length c0_5] 24 (0, 0)) (by (with_reducible repeat (first | refine blk_drewN ?_ _ | refine blk_drew ?_ | refine blk_alloc ?_ _)); exact BK164.out) hb); have n1_ := Aside0.mk (below_step (by repeat (first | (with_reducible first | exact HB.out | apply below_alloc | apply pw_below_drewN | apply below_drew1 | refine below_set ?_ GE164.out) | exact HB.out)) hb); have n2_ := Aside0.mk (hbox); have n3_ := Aside0.mk ((by rw [hg]; exact (below_size (by repeat (first | (with_reducible first | exact HB.out | apply below_alloc | apply pw_below_drewN | apply below_drew1 | refine below_set ?_ GE164.out) | exact HB.out))) : w.heap.size ≤ gb167)); have n4_ := Aside0.mk ((by rw [hg]; exact (below_size (by repeat (first | (with_reducible first | exact HB.out | apply below_alloc | apply pw_below_drewN | apply below_drew1 | refine below_set ?_ GE164.out) | exact HB.out))) : w.heap.size ≤ gb167)); have n5_ := Aside0.mk ((by rw [hg]; exact Nat.ne_of_lt (blk_lt (g := gb164) (o := .cells #[.int .i64 a0_0, .int .i64 a0_1, .int .i64 a0_2, .int .i64 a0_3, .int .i64 a0_4, .slice A0_5 l0_5.length c0_5] 24 (0, 0)) (by (with_reducible repeat (first | refine blk_drewN ?_ _ | refine blk_drew ?_ | refine blk_alloc ?_ _)); exact BK164.out)) : gb164 ≠ gb167)); have n6_ := Aside0.mk ((by rw [hg]; exact Nat.ne_of_gt (blk_lt (g := gb164) (o := .cells #[.int .i64 a0_0, .int .i64 a0_1, .int .i64 a0_2, .int .i64 a0_3, .int .i64 a0_4, .slice A0_5 l0_5.length c0_5] 24 (0, 0)) (by (with_reducible repeat (first | refine blk_drewN ?_ _ | refine blk_drew ?_ | refine blk_alloc ?_ _)); exact BK164.out)) : gb167 ≠ gb164)); clear BK164; clear HB; have BK164 := n0_; have HB := n1_; have BK167 := n2_; have GW167 := n3_; have GE167 := n4_; have NB164_167 := n5_; have NB167_164 := n6_; clear n0_ n1_ n2_ n3_ n4_ n5_ n6_; clear hb hbox hg; have hnb23 := NB167_164.out; have hnc23 := NB164_167.out; have hcz24_0 : w22.cell? ⟨gb167, 0, none⟩ = some (.int .u64 0) := (blk_cell BK167.out 0).trans rfl; have hcz24_1 : w22.cell? ⟨gb167, 1, none⟩ = some (.slice none 0 0) := (blk_cell BK167.out 1).trans rfl; have hcz24_2 : w22.cell? ⟨gb167, 2, none⟩ = some (.slice none 0 0) := (blk_cell BK167.out 2).trans rfl; have hfz24_0 := blk_frozen BK167.out 0; have hfz24_1 := blk_frozen BK167.out 1; have hfz24_2 := blk_frozen BK167.out 2) | ((with_reducible refine gate_callee (f := 33) rfl ?_); refine goesL_ (some 17) rfl rfl Tryd.func33 (by kernel_rfl) rfl #[.agg #[.int .u64 ((rd_T31 l1 x12_1).f0), .slice A166_1 ((rd_T31 l1 x12_1).f1).length c166_1, .slice A166_2 ((rd_T31 l1 x12_1).f2).length c166_2], .int .i64 2000] rfl (by (try simp only [List.map_toArray, List.map_cons, List.map_nil]); first | done | rfl | (simp only [List.length_drop, List.length_take]; rfl)) ?_; (with_reducible refine (passepartoutref05_Count.calls k1 ((rd_T31 l1 x12_1).f0) _ _ ((rd_T31 l1 x12_1).f1) _ _ ((rd_T31 l1 x12_1).f2) 2000 t168 _ ?side1 ?side2 ?side3 ?side4 A14.out).mono ?_); (case side1 => exact Kd.C_below HR166_1.out (by repeat (first | (with_reducible first | exact HB.out | apply below_alloc | apply pw_below_drewN | apply below_drew1 | refine below_set ?_ GE164.out | refine below_set ?_ GE167.out) | exact HB.out))); (case side2 => exact HC166_1.out); (case side3 => exact Kd.C_below HR166_2.out (by repeat (first | (with_reducible first | exact HB.out | apply below_alloc | apply pw_below_drewN | apply below_drew1 | refine below_set ?_ GE164.out | refine below_set ?_ GE167.out) | exact HB.out))); (case side4 => exact HC166_2.out); rintro e w25 ⟨rfl, hb⟩; refine ⟨_, rfl, ?_⟩; have n0_ := Aside0.mk (blk_below (g := gb164) (o := .cells #[.int .i64 a0_0, .int .i64 a0_1, .int .i64 a0_2, .int .i64 a0_3, .int .i64 a0_4, .slice A0_5 l0_5.length c0_5] 24 (0, 0)) (by (with_reducible repeat (first | refine blk_drewN ?_ _ | refine blk_drew ?_ | refine blk_alloc ?_ _)); refine blk_far ?_ NB164_167.out _; (with_reducible repeat (first | refine blk_drewN ?_ _ | refine blk_drew ?_ | refine blk_alloc ?_ _)); refine blk_far ?_ NB164_167.out _; (with_reducible repeat (first | refine blk_drewN ?_ _ | refine blk_drew ?_ | refine blk_alloc ?_ _)); refine blk_far ?_ NB164_167.out _; (with_reducible repeat (first | refine blk_drewN ?_ _ | refine blk_drew ?_ | refine blk_alloc ?_ _)); exact BK164.out) hb); have n1_ := Aside0.mk (blk_below (g := gb167) (o := .cells #[.int .u64 ((rd_T31 l1 x12_1).f0), .slice A166_1 ((rd_T31 l1 x12_1).f1).length c166_1, .slice A166_2 ((rd_T31 l1 x12_1).f2).length c166_2] 31 (0, 0)) (by (with_reducible repeat (first | refine blk_drewN ?_ _ | refine blk_drew ?_ | refine blk_alloc ?_ _)); refine blk_put (cs := #[.int .u64 ((rd_T31 l1 x12_1).f0), .slice A166_1 ((rd_T31 l1 x12_1).f1).length c166_1, .slice none 0 0]) ?_ 2 _ rfl; (with_reducible repeat (first | refine blk_drewN ?_ _ | refine blk_drew ?_ | refine blk_alloc ?_ _)); refine blk_put (cs := #[.int .u64 ((rd_T31 l1 x12_1).f0), .slice none 0 0, .slice none 0 0]) ?_ 1 _ rfl; (with_reducible repeat (first | refine blk_drewN ?_ _ | refine blk_drew ?_ | refine blk_alloc ?_ _)); refine blk_put (cs := #[.int .u64 0, .slice none 0 0, .slice none 0 0]) ?_ 0 _ rfl; (with_reducible repeat (first | refine blk_drewN ?_ _ | refine blk_drew ?_ | refine blk_alloc ?_ _)); exact BK167.out) hb); have n2_ := Aside0.mk (below_step (by repeat (first | (with_reducible first | exact HB.out | apply below_alloc | apply pw_below_drewN | apply below_drew1 | refine below_set ?_ GE164.out | refine below_set ?_ GE167.out) | exact HB.out)) hb); clear BK164; clear BK167; clear HB; have BK164 := n0_; have BK167 := n1_; have HB := n2_; clear n0_ n1_ n2_; (try clear hb); (try clear hb2); (try clear hk); (try clear hi); have hcz26_0 : w25.cell? ⟨gb167, 0, none⟩ = some (.int .u64 ((rd_T31 l1 x12_1).f0)) := (blk_cell BK167.out 0).trans rfl; have hcz26_1 : w25.cell? ⟨gb167, 1, none⟩ = some (.slice A166_1 ((rd_T31 l1 x12_1).f1).length c166_1) := (blk_cell BK167.out 1).trans rfl; have hcz26_2 : w25.cell? ⟨gb167, 2, none⟩ = some (.slice A166_2 ((rd_T31 l1 x12_1).f2).length c166_2) := (blk_cell BK167.out 2).trans rfl; have hfz26_0 := blk_frozen BK167.out 0; have hfz26_1 := blk_frozen BK167.out 1; have hfz26_2 := blk_frozen BK167.out 2) | (go_at_call 34; (with_reducible refine (passepartoutref05_Bytes.calls k1 ((rd_T31 l1 x12_1).f0) _ _ ((rd_T31 l1 x12_1).f1) _ _ ((rd_T31 l1 x12_1).f2) 20000 t169 _ ?side1 ?side2 ?side3 ?side4 A20.out).mono ?_); (case side1 => repeat (first | exact (Kd.C_below HR166_1.out HB.out) | (with_reducible refine Kd.C_alloc ?_ _) | (with_reducible refine Kd.C_drewN ?_ _) | (with_reducible refine Kd.C_drew ?_))); (case side2 => exact HC166_1.out); (case side3 => repeat (first | exact (Kd.C_below HR166_2.out HB.out) | (with_reducible refine Kd.C_alloc ?_ _) | (with_reducible refine Kd.C_drewN ?_ _) | (with_reducible refine Kd.C_drew ?_))); (case side4 => exact HC166_2.out); rintro e w27 ⟨rfl, hb⟩; have n0_ := Aside0.mk (blk_below (g := gb164) (o := .cells #[.int .i64 a0_0, .int .i64 a0_1, .int .i64 a0_2, .int .i64 a0_3, .int .i64 a0_4, .slice A0_5 l0_5.length c0_5] 24 (0, 0)) (by (with_reducible repeat (first | refine blk_drewN ?_ _ | refine blk_drew ?_ | refine blk_alloc ?_ _)); exact BK164.out) hb); have n1_ := Aside0.mk (blk_below (g := gb167) (o := .cells #[.int .u64 ((rd_T31 l1 x12_1).f0), .slice A166_1 ((rd_T31 l1 x12_1).f1).length c166_1, .slice A166_2 ((rd_T31 l1 x12_1).f2).length c166_2] 31 (0, 0)) (by (with_reducible repeat (first | refine blk_drewN ?_ _ | refine blk_drew ?_ | refine blk_alloc ?_ _)); exact BK167.out) hb); have n2_ := Aside0.mk (below_step (by repeat (first | (with_reducible first | exact HB.out | apply below_alloc | apply pw_below_drewN | apply below_drew1 | refine below_set ?_ GE164.out | refine below_set ?_ GE167.out) | exact HB.out)) hb); clear BK164; clear BK167; clear HB; have BK164 := n0_; have BK167 := n1_; have HB := n2_; clear n0_ n1_ n2_; (try clear hb); (try clear hb2); (try clear hk); (try clear hi)))
         go_ret
         exact ⟨by first | rfl | (simp [errW_none, errW_some] <;> rfl) | (simp [*, errW_none, errW_some] <;> rfl), by repeat (first | (with_reducible first | exact HB.out | apply below_alloc | apply pw_below_drewN | apply below_drew1 | refine below_set ?_ GE164.out | refine below_set ?_ GE167.out) | exact HB.out)⟩
        ·rw [if_neg c21] at H
         have c21b0 : decide (20000 < t169) = false := decide_eq_false c21
         clear c21
         have H' := Aside0.mk H
         clear H
         have p166 : 0 ≤ (x12_1 : Int) := of_decide_eq_true (by first | (with_reducible assumption) | assumption)
         have q166 : x12_1 < (l1.length : Int) := of_decide_eq_true (by first | (with_reducible assumption) | assumption)
         obtain ⟨ad166, A166_1, c166_1, A166_2, c166_2, e166, hx166_0, hx166_1, hx166_2, hl166_1, hi166_1, hl166_2, hi166_2⟩ := at_T31 HR1.out x12_1 p166 q166
         cases e166
         replace hx166_0 := (HB.out.cell (World.block_lt_of_cell? w _ hx166_0)).trans hx166_0
         replace hx166_1 := (HB.out.cell (World.block_lt_of_cell? w _ hx166_1)).trans hx166_1
         replace hx166_2 := (HB.out.cell (World.block_lt_of_cell? w _ hx166_2)).trans hx166_2
         have HR166_1 := Aside0.mk hi166_1
         have HC166_1 := Aside0.mk hl166_1
         clear hi166_1 hl166_1
         have HR166_2 := Aside0.mk hi166_2
         have HC166_2 := Aside0.mk hl166_2
         clear hi166_2 hl166_2
         replace p166 := eq_true p166
         replace q166 := eq_true q166
         go_wp2_with (first | ((with_reducible refine gate_dst (N := 6) rfl ?_); refine box_event ?hg (N := 6) ?hd (cs := #[.int .u64 0, .slice none 0 0, .slice none 0 0]) (t := 31) ?hr ?_; (case hd => rfl); (case hg => rfl); (case hr => first | (go_simp; done) | (go_simp; rfl)); intro gb167 hg w28 hbox hb; have n0_ := Aside0.mk (blk_below (g := gb164) (o := .cells #[.int .i64 a0_0, .int .i64 a0_1, .int .i64 a0_2, .int .i64 a0_3, .int .i64 a0_4, .slice A0_5 l0_5.length c0_5] 24 (0, 0)) (by (with_reducible repeat (first | refine blk_drewN ?_ _ | refine blk_drew ?_ | refine blk_alloc ?_ _)); exact BK164.out) hb); have n1_ := Aside0.mk (below_step (by repeat (first | (with_reducible first | exact HB.out | apply below_alloc | apply pw_below_drewN | apply below_drew1 | refine below_set ?_ GE164.out) | exact HB.out)) hb); have n2_ := Aside0.mk (hbox); have n3_ := Aside0.mk ((by rw [hg]; exact (below_size (by repeat (first | (with_reducible first | exact HB.out | apply below_alloc | apply pw_below_drewN | apply below_drew1 | refine below_set ?_ GE164.out) | exact HB.out))) : w.heap.size ≤ gb167)); have n4_ := Aside0.mk ((by rw [hg]; exact (below_size (by repeat (first | (with_reducible first | exact HB.out | apply below_alloc | apply pw_below_drewN | apply below_drew1 | refine below_set ?_ GE164.out) | exact HB.out))) : w.heap.size ≤ gb167)); have n5_ := Aside0.mk ((by rw [hg]; exact Nat.ne_of_lt (blk_lt (g := gb164) (o := .cells #[.int .i64 a0_0, .int .i64 a0_1, .int .i64 a0_2, .int .i64 a0_3, .int .i64 a0_4, .slice A0_5 l0_5.length c0_5] 24 (0, 0)) (by (with_reducible repeat (first | refine blk_drewN ?_ _ | refine blk_drew ?_ | refine blk_alloc ?_ _)); exact BK164.out)) : gb164 ≠ gb167)); have n6_ := Aside0.mk ((by rw [hg]; exact Nat.ne_of_gt (blk_lt (g := gb164) (o := .cells #[.int .i64 a0_0, .int .i64 a0_1, .int .i64 a0_2, .int .i64 a0_3, .int .i64 a0_4, .slice A0_5 l0_5.length c0_5] 24 (0, 0)) (by (with_reducible repeat (first | refine blk_drewN ?_ _ | refine blk_drew ?_ | refine blk_alloc ?_ _)); exact BK164.out)) : gb167 ≠ gb164)); clear BK164; clear HB; have BK164 := n0_; have HB := n1_; have BK167 := n2_; have GW167 := n3_; have GE167 := n4_; have NB164_167 := n5_; have NB167_164 := n6_; clear n0_ n1_ n2_ n3_ n4_ n5_ n6_; clear hb hbox hg; have hnb29 := NB167_164.out; have hnc29 := NB164_167.out; have hcz30_0 : w28.cell? ⟨gb167, 0, none⟩ = some (.int .u64 0) := (blk_cell BK167.out 0).trans rfl; have hcz30_1 : w28.cell? ⟨gb167, 1, none⟩ = some (.slice none 0 0) := (blk_cell BK167.out 1).trans rfl; have hcz30_2 : w28.cell? ⟨gb167, 2, none⟩ = some (.slice none 0 0) := (blk_cell BK167.out 2).trans rfl; have hfz30_0 := blk_frozen BK167.out 0; have hfz30_1 := blk_frozen BK167.out 1; have hfz30_2 := blk_frozen BK167.out 2) | ((with_reducible refine gate_callee (f := 33) rfl ?_); refine goesL_ (some 17) rfl rfl Tryd.func33 (by kernel_rfl) rfl #[.agg #[.int .u64 ((rd_T31 l1 x12_1).f0), .slice A166_1 ((rd_T31 l1 x12_1).f1).length c166_1, .slice A166_2 ((rd_T31 l1 x12_1).f2).length c166_2], .int .i64 2000] rfl (by (try simp only [List.map_toArray, List.map_cons, List.map_nil]); first | done | rfl | (simp only [List.length_drop, List.length_take]; rfl)) ?_; (with_reducible refine (passepartoutref05_Count.calls k1 ((rd_T31 l1 x12_1).f0) _ _ ((rd_T31 l1 x12_1).f1) _ _ ((rd_T31 l1 x12_1).f2) 2000 t168 _ ?side1 ?side2 ?side3 ?side4 A14.out).mono ?_); (case side1 => exact Kd.C_below HR166_1.out (by repeat (first | (with_reducible first | exact HB.out | apply below_alloc | apply pw_below_drewN | apply below_drew1 | refine below_set ?_ GE164.out | refine below_set ?_ GE167.out) | exact HB.out))); (case side2 => exact HC166_1.out); (case side3 => exact Kd.C_below HR166_2.out (by repeat (first | (with_reducible first | exact HB.out | apply below_alloc | apply pw_below_drewN | apply below_drew1 | refine below_set ?_ GE164.out | refine below_set ?_ GE167.out) | exact HB.out))); (case side4 => exact HC166_2.out); rintro e w31 ⟨rfl, hb⟩; refine ⟨_, rfl, ?_⟩; have n0_ := Aside0.mk (blk_below (g := gb164) (o := .cells #[.int .i64 a0_0, .int .i64 a0_1, .int .i64 a0_2, .int .i64 a0_3, .int .i64 a0_4, .slice A0_5 l0_5.length c0_5] 24 (0, 0)) (by (with_reducible repeat (first | refine blk_drewN ?_ _ | refine blk_drew ?_ | refine blk_alloc ?_ _)); refine blk_far ?_ NB164_167.out _; (with_reducible repeat (first | refine blk_drewN ?_ _ | refine blk_drew ?_ | refine blk_alloc ?_ _)); refine blk_far ?_ NB164_167.out _; (with_reducible repeat (first | refine blk_drewN ?_ _ | refine blk_drew ?_ | refine blk_alloc ?_ _)); refine blk_far ?_ NB164_167.out _; (with_reducible repeat (first | refine blk_drewN ?_ _ | refine blk_drew ?_ | refine blk_alloc ?_ _)); exact BK164.out) hb); have n1_ := Aside0.mk (blk_below (g := gb167) (o := .cells #[.int .u64 ((rd_T31 l1 x12_1).f0), .slice A166_1 ((rd_T31 l1 x12_1).f1).length c166_1, .slice A166_2 ((rd_T31 l1 x12_1).f2).length c166_2] 31 (0, 0)) (by (with_reducible repeat (first | refine blk_drewN ?_ _ | refine blk_drew ?_ | refine blk_alloc ?_ _)); refine blk_put (cs := #[.int .u64 ((rd_T31 l1 x12_1).f0), .slice A166_1 ((rd_T31 l1 x12_1).f1).length c166_1, .slice none 0 0]) ?_ 2 _ rfl; (with_reducible repeat (first | refine blk_drewN ?_ _ | refine blk_drew ?_ | refine blk_alloc ?_ _)); refine blk_put (cs := #[.int .u64 ((rd_T31 l1 x12_1).f0), .slice none 0 0, .slice none 0 0]) ?_ 1 _ rfl; (with_reducible repeat (first | refine blk_drewN ?_ _ | refine blk_drew ?_ | refine blk_alloc ?_ _)); refine blk_put (cs := #[.int .u64 0, .slice none 0 0, .slice none 0 0]) ?_ 0 _ rfl; (with_reducible repeat (first | refine blk_drewN ?_ _ | refine blk_drew ?_ | refine blk_alloc ?_ _)); exact BK167.out) hb); have n2_ := Aside0.mk (below_step (by repeat (first | (with_reducible first | exact HB.out | apply below_alloc | apply pw_below_drewN | apply below_drew1 | refine below_set ?_ GE164.out | refine below_set ?_ GE167.out) | exact HB.out)) hb); clear BK164; clear BK167; clear HB; have BK164 := n0_; have BK167 := n1_; have HB := n2_; clear n0_ n1_ n2_; (try clear hb); (try clear hb2); (try clear hk); (try clear hi); have hcz32_0 : w31.cell? ⟨gb167, 0, none⟩ = some (.int .u64 ((rd_T31 l1 x12_1).f0)) := (blk_cell BK167.out 0).trans rfl; have hcz32_1 : w31.cell? ⟨gb167, 1, none⟩ = some (.slice A166_1 ((rd_T31 l1 x12_1).f1).length c166_1) := (blk_cell BK167.out 1).trans rfl; have hcz32_2 : w31.cell? ⟨gb167, 2, none⟩ = some (.slice A166_2 ((rd_T31 l1 x12_1).f2).length c166_2) := (blk_cell BK167.out 2).trans rfl; have hfz32_0 := blk_frozen BK167.out 0; have hfz32_1 := blk_frozen BK167.out 1; have hfz32_2 := blk_frozen BK167.out 2) | (go_at_call 34; (with_reducible refine (passepartoutref05_Bytes.calls k1 ((rd_T31 l1 x12_1).f0) _ _ ((rd_T31 l1 x12_1).f1) _ _ ((rd_T31 l1 x12_1).f2) 20000 t169 _ ?side1 ?side2 ?side3 ?side4 A20.out).mono ?_); (case side1 => repeat (first | exact (Kd.C_below HR166_1.out HB.out) | (with_reducible refine Kd.C_alloc ?_ _) | (with_reducible refine Kd.C_drewN ?_ _) | (with_reducible refine Kd.C_drew ?_))); (case side2 => exact HC166_1.out); (case side3 => repeat (first | exact (Kd.C_below HR166_2.out HB.out) | (with_reducible refine Kd.C_alloc ?_ _) | (with_reducible refine Kd.C_drewN ?_ _) | (with_reducible refine Kd.C_drew ?_))); (case side4 => exact HC166_2.out); rintro e w33 ⟨rfl, hb⟩; have n0_ := Aside0.mk (blk_below (g := gb164) (o := .cells #[.int .i64 a0_0, .int .i64 a0_1, .int .i64 a0_2, .int .i64 a0_3, .int .i64 a0_4, .slice A0_5 l0_5.length c0_5] 24 (0, 0)) (by (with_reducible repeat (first | refine blk_drewN ?_ _ | refine blk_drew ?_ | refine blk_alloc ?_ _)); exact BK164.out) hb); have n1_ := Aside0.mk (blk_below (g := gb167) (o := .cells #[.int .u64 ((rd_T31 l1 x12_1).f0), .slice A166_1 ((rd_T31 l1 x12_1).f1).length c166_1, .slice A166_2 ((rd_T31 l1 x12_1).f2).length c166_2] 31 (0, 0)) (by (with_reducible repeat (first | refine blk_drewN ?_ _ | refine blk_drew ?_ | refine blk_alloc ?_ _)); exact BK167.out) hb); have n2_ := Aside0.mk (below_step (by repeat (first | (with_reducible first | exact HB.out | apply below_alloc | apply pw_below_drewN | apply below_drew1 | refine below_set ?_ GE164.out | refine below_set ?_ GE167.out) | exact HB.out)) hb); clear BK164; clear BK167; clear HB; have BK164 := n0_; have BK167 := n1_; have HB := n2_; clear n0_ n1_ n2_; (try clear hb); (try clear hb2); (try clear hk); (try clear hi)))
         go_roundg k1
         case measure => have := HK1.out; omega
         case rel => exact ⟨(wrap64 (x12_1 + 1)), (by first | rfl | (simp; done) | (simp [*]; done)), H', ⟨by have := HK1.out; omega⟩, ⟨by (with_reducible repeat (first | refine blk_drewN ?_ _ | refine blk_drew ?_ | refine blk_alloc ?_ _)); exact BK164.out⟩, ⟨by repeat (first | (with_reducible first | exact HB.out | apply below_alloc | apply pw_below_drewN | apply below_drew1 | refine below_set ?_ GE164.out | refine below_set ?_ GE167.out) | exact HB.out)⟩⟩
      ·rw [if_neg c13] at H
       exact absurd H (by simp)
     ·rw [if_neg c12] at H
      exact absurd H (by simp)
    ·rw [if_neg c11] at H
     have c11b0 : decide (x12_1 < (l1.length : Int)) = false := decide_eq_false c11
     clear c11
     obtain rfl := Option.some.inj H
     go_wp2
     go_ret
     exact ⟨by first | rfl | (simp [errW_none, errW_some] <;> rfl) | (simp [*, errW_none, errW_some] <;> rfl), by repeat (first | (with_reducible first | exact HB.out | apply below_alloc | apply pw_below_drewN | apply below_drew1 | refine below_set ?_ GE164.out) | exact HB.out)⟩

end Go.Proofs.YtdhnfccgojgehaaDoor.QP

namespace Go.Proofs.YtdhnfccgojgehaaDoor.QP
open Go.RowKit Go.Proofs.YtdhnfccgojgehaaDoorW.PrintWords Go.Proofs.YtdhnfccgojgehaaDoorW.PrintLast Go.Proofs.YtdhnfccgojgehaaDoorW.PrintMore
attribute [local go_sem] max2_int min2_int max_two min_two max_three min_three max_four min_four   -- for this text's walks alone
set_option linter.unusedVariables false
set_option linter.unusedSimpArgs false

/-! ### passepartoutref05_Same: function 13 -/
mutual
def passepartoutref05_Same.j0 : Nat → Bool → Int → List Int → List (S31) → Int → List Int → List (S31) → Option (Bool)
 | 0, _, _, _, _, _, _, _ => none
 | k + 1, x29, x102000, x102001, x102002, x103000, x103001, x103002 => if x29 = true then (some false) else (passepartoutref05_Same.l0 k 0 x102000 x102001 x102002 x103000 x103001 x103002)
def passepartoutref05_Same.l0 : Nat → Int → Int → List Int → List (S31) → Int → List Int → List (S31) → Option (Bool)
 | 0, _, _, _, _, _, _, _ => none
 | k + 1, x5, x102000, x102001, x102002, x103000, x103001, x103002 => if x5 < (x102002.length : Int) then (if 0 ≤ x5 then (if x5 < (x103002.length : Int) then ((passepartoutref05_Same.f k ((rd_T31 x102002 x5).f0) ((rd_T31 x102002 x5).f1) ((rd_T31 x102002 x5).f2) ((rd_T31 x103002 x5).f0) ((rd_T31 x103002 x5).f1) ((rd_T31 x103002 x5).f2)).bind fun t105 => (if t105 = true then (passepartoutref05_Same.l0 k (wrap64 (x5 + 1)) x102000 x102001 x102002 x103000 x103001 x103002) else (some false))) else (none)) else (none)) else (some true)
def passepartoutref05_Same.f : Nat → Int → List Int → List (S31) → Int → List Int → List (S31) → Option (Bool)
 | 0, _, _, _, _, _, _ => none
 | k + 1, a0_0, l0_1, l0_2, a1_0, l1_1, l1_2 => if a0_0 = a1_0 then (if (strOfNums l0_1).toList = (strOfNums l1_1).toList then (passepartoutref05_Same.j0 k ((l0_2.length : Int) != (l1_2.length : Int)) a0_0 l0_1 l0_2 a1_0 l1_1 l1_2) else (passepartoutref05_Same.j0 k true a0_0 l0_1 l0_2 a1_0 l1_1 l1_2)) else (passepartoutref05_Same.j0 k true a0_0 l0_1 l0_2 a1_0 l1_1 l1_2)
end
theorem passepartoutref05_Same.mono_l : ∀ k, (∀ y0 y1 y2 y3 y4 y5, LeO (passepartoutref05_Same.f k y0 y1 y2 y3 y4 y5) (passepartoutref05_Same.f (k + 1) y0 y1 y2 y3 y4 y5)) ∧ (∀ y0 y1 y2 y3 y4 y5 y6, LeO (passepartoutref05_Same.j0 k y0 y1 y2 y3 y4 y5 y6) (passepartoutref05_Same.j0 (k + 1) y0 y1 y2 y3 y4 y5 y6)) ∧ (∀ y0 y1 y2 y3 y4 y5 y6, LeO (passepartoutref05_Same.l0 k y0 y1 y2 y3 y4 y5 y6) (passepartoutref05_Same.l0 (k + 1) y0 y1 y2 y3 y4 y5 y6))
 | 0 => ⟨fun _ _ _ _ _ _ r h => by simp [passepartoutref05_Same.f] at h, fun _ _ _ _ _ _ _ r h => by simp [passepartoutref05_Same.j0] at h, fun _ _ _ _ _ _ _ r h => by simp [passepartoutref05_Same.l0] at h⟩
 | k + 1 => by
  obtain ⟨ih0, ih1, ih2⟩ := passepartoutref05_Same.mono_l k
  refine ⟨?_, ?_, ?_⟩
  ·intro y0 y1 y2 y3 y4 y5
   unfold passepartoutref05_Same.f
   repeat' first
   | (with_reducible exact ih0 _ _ _ _ _ _)
   | (with_reducible exact ih1 _ _ _ _ _ _ _)
   | (with_reducible exact ih2 _ _ _ _ _ _ _)
   | (with_reducible exact LeO.refl _)
   | (with_reducible exact LeO.none _)
   | (with_reducible refine LeO.ite ?_ ?_)
   | (with_reducible refine LeO.bind ?_ (fun _ => ?_))
   | exact ih0 _ _ _ _ _ _
   | exact ih1 _ _ _ _ _ _ _
   | exact ih2 _ _ _ _ _ _ _
   | exact LeO.none _
   | refine LeO.ite ?_ ?_
   | refine LeO.bind ?_ (fun _ => ?_)
  ·intro y0 y1 y2 y3 y4 y5 y6
   unfold passepartoutref05_Same.j0
   repeat' first
   | (with_reducible exact ih0 _ _ _ _ _ _)
   | (with_reducible exact ih1 _ _ _ _ _ _ _)
   | (with_reducible exact ih2 _ _ _ _ _ _ _)
   | (with_reducible exact LeO.refl _)
   | (with_reducible exact LeO.none _)
   | (with_reducible refine LeO.ite ?_ ?_)
   | (with_reducible refine LeO.bind ?_ (fun _ => ?_))
   | exact ih0 _ _ _ _ _ _
   | exact ih1 _ _ _ _ _ _ _
   | exact ih2 _ _ _ _ _ _ _
   | exact LeO.none _
   | refine LeO.ite ?_ ?_
   | refine LeO.bind ?_ (fun _ => ?_)
  ·intro y0 y1 y2 y3 y4 y5 y6
   unfold passepartoutref05_Same.l0
   repeat' first
   | (with_reducible exact ih0 _ _ _ _ _ _)
   | (with_reducible exact ih1 _ _ _ _ _ _ _)
   | (with_reducible exact ih2 _ _ _ _ _ _ _)
   | (with_reducible exact LeO.refl _)
   | (with_reducible exact LeO.none _)
   | (with_reducible refine LeO.ite ?_ ?_)
   | (with_reducible refine LeO.bind ?_ (fun _ => ?_))
   | exact ih0 _ _ _ _ _ _
   | exact ih1 _ _ _ _ _ _ _
   | exact ih2 _ _ _ _ _ _ _
   | exact LeO.none _
   | refine LeO.ite ?_ ?_
   | refine LeO.bind ?_ (fun _ => ?_)
theorem passepartoutref05_Same.mono : ∀ a0 a1 a2 a3 a4 a5 k, LeO (passepartoutref05_Same.f k a0 a1 a2 a3 a4 a5) (passepartoutref05_Same.f (k + 1) a0 a1 a2 a3 a4 a5) := by
 intro a0 a1 a2 a3 a4 a5 k
 obtain ⟨ih0, ih1, ih2⟩ := passepartoutref05_Same.mono_l k
 exact ih0 a0 a1 a2 a3 a4 a5
def passepartoutref05_Same.T6 : Bool × List (List Nat × List Nat) := (true, [([], []), ([0], [0]), ([], []), ([1, 2], [1, 2]), ([3], [3]), ([], []), ([5], [5]), ([], []), ([6, 7], [6, 7]), ([8], [8]), ([4, 9], [4, 9]), ([10, 10, 0, 1, 2, 3, 4, 5, 6, 7, 8, 9, 10], [10])])
def passepartoutref05_Same.B6 : List Nat := [0, 1, 0, 7, 15, 0, 32, 0, 224, 480, 1023, 2047]
theorem passepartoutref05_Same.tab6 : rtab .any (opsOf Tryd.f13 6) = passepartoutref05_Same.T6 := by kernel_rfl
theorem passepartoutref05_Same.bits6 : waitsOk passepartoutref05_Same.T6.2 passepartoutref05_Same.B6 = true := by kernel_rfl
set_option maxHeartbeats 8000000 in
set_option maxRecDepth 100000 in
theorem passepartoutref05_Same.calls (k : Nat) : ∀ (a0_0 : Int) (A0_1 : Option Addr) (c0_1 : Nat) (l0_1 : List Int) (A0_2 : Option Addr) (c0_2 : Nat) (l0_2 : List (S31)) (a1_0 : Int) (A1_1 : Option Addr) (c1_1 : Nat) (l1_1 : List Int) (A1_2 : Option Addr) (c1_2 : Nat) (l1_2 : List (S31)) (r : Bool) (w : World) (hr0_1 : Kd.C (Kd.int .u8) w A0_1 l0_1.length l0_1) (hc0_1 : l0_1.length ≤ c0_1) (hr0_2 : Kd.C k31 w A0_2 l0_2.length l0_2) (hc0_2 : l0_2.length ≤ c0_2) (hr1_1 : Kd.C (Kd.int .u8) w A1_1 l1_1.length l1_1) (hc1_1 : l1_1.length ≤ c1_1) (hr1_2 : Kd.C k31 w A1_2 l1_2.length l1_2) (hc1_2 : l1_2.length ≤ c1_2) (h : passepartoutref05_Same.f k a0_0 l0_1 l0_2 a1_0 l1_1 l1_2 = some r),
  Calls Tryd.prog 13 #[.agg #[.int .u64 a0_0, .slice A0_1 l0_1.length c0_1, .slice A0_2 l0_2.length c0_2], .agg #[.int .u64 a1_0, .slice A1_1 l1_1.length c1_1, .slice A1_2 l1_2.length c1_2]] w fun e w' => e = .returned (.bool r) ∧ Below w.heap.size w w' := by
 induction k using Nat.strongRecOn with
 | _ k ih =>
 intro a0_0 A0_1 c0_1 l0_1 A0_2 c0_2 l0_2 a1_0 A1_1 c1_1 l1_1 A1_2 c1_2 l1_2 r w hr0_1 hc0_1 hr0_2 hc0_2 hr1_1 hc1_1 hr1_2 hc1_2 h
 cases k with
 | zero => exact absurd h (by simp [passepartoutref05_Same.f])
 | succ k =>
 simp only [passepartoutref05_Same.f] at h
 have hu31 := Tryd.underlying31
 have HR0_1 := Aside0.mk hr0_1
 have HC0_1 := Aside0.mk hc0_1
 clear hr0_1 hc0_1
 have HR0_2 := Aside0.mk hr0_2
 have HC0_2 := Aside0.mk hc0_2
 clear hr0_2 hc0_2
 have HR1_1 := Aside0.mk hr1_1
 have HC1_1 := Aside0.mk hc1_1
 clear hr1_1 hc1_1
 have HR1_2 := Aside0.mk hr1_2
 have HC1_2 := Aside0.mk hc1_2
 clear hr1_2 hc1_2
 have HB := Aside0.mk (Below.refl w.heap.size w)
 have H : (if a0_0 = a1_0 then (if (strOfNums l0_1).toList = (strOfNums l1_1).toList then (passepartoutref05_Same.j0 k ((l0_2.length : Int) != (l1_2.length : Int)) a0_0 l0_1 l0_2 a1_0 l1_1 l1_2) else (passepartoutref05_Same.j0 k true a0_0 l0_1 l0_2 a1_0 l1_1 l1_2)) else (passepartoutref05_Same.j0 k true a0_0 l0_1 l0_2 a1_0 l1_1 l1_2)) = some r := h
 clear h
 have HC3 := Aside0.mk H
 clear H
 go_enter Tryd.func13, Tryd.ntmps13
 go_upto_region 1 with (first | ((with_reducible refine gate_dst (N := 2) rfl ?_); (try (refine gate_guard (by rfl) ?_; dsimp only)); refine box_event ?hg (N := 2) ?hd (cs := #[.int .u64 a0_0, .slice A0_1 l0_1.length c0_1, .slice A0_2 l0_2.length c0_2]) (t := 31) ?hr ?_; (case hd => rfl); (case hg => rfl); (case hr => first | (go_simp; done) | (go_simp; rfl)); intro gb101 hg w4 hbox hb; have n0_ := Aside0.mk (below_step (by repeat (first | (with_reducible first | exact HB.out | apply below_alloc | apply pw_below_drewN | apply below_drew1) | exact HB.out)) hb); have n1_ := Aside0.mk (hbox); have n2_ := Aside0.mk ((by rw [hg]; exact (below_size (by repeat (first | (with_reducible first | exact HB.out | apply below_alloc | apply pw_below_drewN | apply below_drew1) | exact HB.out))) : w.heap.size ≤ gb101)); have n3_ := Aside0.mk ((by rw [hg]; exact (below_size (by repeat (first | (with_reducible first | exact HB.out | apply below_alloc | apply pw_below_drewN | apply below_drew1) | exact HB.out))) : w.heap.size ≤ gb101)); clear HB; have HB := n0_; have BK101 := n1_; have GW101 := n2_; have GE101 := n3_; clear n0_ n1_ n2_ n3_; clear hb hbox hg) | ((with_reducible refine gate_dst (N := 3) rfl ?_); (try (refine gate_guard (by rfl) ?_; dsimp only)); refine box_event ?hg (N := 3) ?hd (cs := #[.int .u64 a1_0, .slice A1_1 l1_1.length c1_1, .slice A1_2 l1_2.length c1_2]) (t := 31) ?hr ?_; (case hd => rfl); (case hg => rfl); (case hr => first | (go_simp; done) | (go_simp; rfl)); intro gb102 hg w5 hbox hb; have n0_ := Aside0.mk (blk_below (g := gb101) (o := .cells #[.int .u64 a0_0, .slice A0_1 l0_1.length c0_1, .slice A0_2 l0_2.length c0_2] 31 (0, 0)) (by (with_reducible repeat (first | refine blk_drewN ?_ _ | refine blk_drew ?_ | refine blk_alloc ?_ _)); exact BK101.out) hb); have n1_ := Aside0.mk (below_step (by repeat (first | (with_reducible first | exact HB.out | apply below_alloc | apply pw_below_drewN | apply below_drew1 | refine below_set ?_ GE101.out) | exact HB.out)) hb); have n2_ := Aside0.mk (hbox); have n3_ := Aside0.mk ((by rw [hg]; exact (below_size (by repeat (first | (with_reducible first | exact HB.out | apply below_alloc | apply pw_below_drewN | apply below_drew1 | refine below_set ?_ GE101.out) | exact HB.out))) : w.heap.size ≤ gb102)); have n4_ := Aside0.mk ((by rw [hg]; exact (below_size (by repeat (first | (with_reducible first | exact HB.out | apply below_alloc | apply pw_below_drewN | apply below_drew1 | refine below_set ?_ GE101.out) | exact HB.out))) : w.heap.size ≤ gb102)); have n5_ := Aside0.mk ((by rw [hg]; exact Nat.ne_of_lt (blk_lt (g := gb101) (o := .cells #[.int .u64 a0_0, .slice A0_1 l0_1.length c0_1, .slice A0_2 l0_2.length c0_2] 31 (0, 0)) (by (with_reducible repeat (first | refine blk_drewN ?_ _ | refine blk_drew ?_ | refine blk_alloc ?_ _)); exact BK101.out)) : gb101 ≠ gb102)); have n6_ := Aside0.mk ((by rw [hg]; exact Nat.ne_of_gt (blk_lt (g := gb101) (o := .cells #[.int .u64 a0_0, .slice A0_1 l0_1.length c0_1, .slice A0_2 l0_2.length c0_2] 31 (0, 0)) (by (with_reducible repeat (first | refine blk_drewN ?_ _ | refine blk_drew ?_ | refine blk_alloc ?_ _)); exact BK101.out)) : gb102 ≠ gb101)); clear BK101; clear HB; have BK101 := n0_; have HB := n1_; have BK102 := n2_; have GW102 := n3_; have GE102 := n4_; have NB101_102 := n5_; have NB102_101 := n6_; clear n0_ n1_ n2_ n3_ n4_ n5_ n6_; clear hb hbox hg))
 (try simp only [Act.put, List.setIfInBounds_toArray, List.set_cons_zero, List.set_cons_succ])
 go_cut [29] (fun v29 wc => ∃ (kq : Nat) (x29_2 : Bool), v29 = .bool x29_2 ∧ Aside0 (passepartoutref05_Same.j0 kq x29_2 a0_0 l0_1 l0_2 a1_0 l1_1 l1_2 = some r) ∧ Aside0 (kq ≤ k) ∧ Aside0 (wc.heap[gb101]? = some (.cells #[.int .u64 a0_0, (.slice A0_1 l0_1.length c0_1), (.slice A0_2 l0_2.length c0_2)] 31 (0, 0))) ∧ Aside0 (wc.heap[gb102]? = some (.cells #[.int .u64 a1_0, (.slice A1_1 l1_1.length c1_1), (.slice A1_2 l1_2.length c1_2)] 31 (0, 0))) ∧ Aside0 (Below w.heap.size w wc))
 case first =>
  have H := HC3.out
  clear HC3
  by_cases c6 : a0_0 = a1_0
  ·rw [if_pos c6] at H
   have c6b0 : (a0_0 == a1_0) = true := beq_iff_eq.mpr c6
   have c6b1 : (a0_0 != a1_0) = false := bne_eq_false_iff_eq.mpr c6
   clear c6
   (first | rw [c6b0] | (simp only [i64_w, i32_w]; rw [c6b0]) | skip)
   by_cases c7 : (strOfNums l0_1).toList = (strOfNums l1_1).toList
   ·rw [if_pos c7] at H
    have c7b0 : ((strOfNums l0_1).toList == (strOfNums l1_1).toList) = true := beq_iff_eq.mpr c7
    have c7b1 : ((strOfNums l0_1).toList != (strOfNums l1_1).toList) = false := bne_eq_false_iff_eq.mpr c7
    clear c7
    have H' := Aside0.mk H
    clear H
    have hnb8 := NB101_102.out
    have hnc8 := NB102_101.out
    have hcz9_0 : w5.cell? ⟨gb101, 0, none⟩ = some (.int .u64 a0_0) := (blk_cell BK101.out 0).trans rfl
    have hcz9_1 : w5.cell? ⟨gb101, 1, none⟩ = some (.slice A0_1 l0_1.length c0_1) := (blk_cell BK101.out 1).trans rfl
    have hcz9_2 : w5.cell? ⟨gb101, 2, none⟩ = some (.slice A0_2 l0_2.length c0_2) := (blk_cell BK101.out 2).trans rfl
    have hfz9_0 := blk_frozen BK101.out 0
    have hfz9_1 := blk_frozen BK101.out 1
    have hfz9_2 := blk_frozen BK101.out 2
    have hcz10_0 : w5.cell? ⟨gb102, 0, none⟩ = some (.int .u64 a1_0) := (blk_cell BK102.out 0).trans rfl
    have hcz10_1 : w5.cell? ⟨gb102, 1, none⟩ = some (.slice A1_1 l1_1.length c1_1) := (blk_cell BK102.out 1).trans rfl
    have hcz10_2 : w5.cell? ⟨gb102, 2, none⟩ = some (.slice A1_2 l1_2.length c1_2) := (blk_cell BK102.out 2).trans rfl
    have hfz10_0 := blk_frozen BK102.out 0
    have hfz10_1 := blk_frozen BK102.out 1
    have hfz10_2 := blk_frozen BK102.out 2
    have hcv11 := Kd.C_string (P := Tryd.prog) (A := A0_1) (c := c0_1) Tryd.underlying25 Tryd.underlying5 Tryd.underlying9 (Kd.C_below HR0_1.out HB.out)
    have hcv12 := Kd.C_string (P := Tryd.prog) (A := A1_1) (c := c1_1) Tryd.underlying25 Tryd.underlying5 Tryd.underlying9 (Kd.C_below HR1_1.out HB.out)
    go_wp2
    go_meet
    case rel => exact ⟨_, (((l0_2.length : Int) != (l1_2.length : Int))), (by first | rfl | (simp; done) | (simp [*]; done)), H', ⟨by first | omega | exact Nat.le_refl _⟩, ⟨by (with_reducible repeat (first | refine blk_drewN ?_ _ | refine blk_drew ?_ | refine blk_alloc ?_ _)); exact BK101.out⟩, ⟨by (with_reducible repeat (first | refine blk_drewN ?_ _ | refine blk_drew ?_ | refine blk_alloc ?_ _)); exact BK102.out⟩, ⟨by repeat (first | (with_reducible first | exact HB.out | apply below_alloc | apply pw_below_drewN | apply below_drew1 | refine below_set ?_ GE101.out | refine below_set ?_ GE102.out) | exact HB.out)⟩⟩
   ·rw [if_neg c7] at H
    have c7b0 : ((strOfNums l0_1).toList == (strOfNums l1_1).toList) = false := beq_eq_false_iff_ne.mpr c7
    have c7b1 : ((strOfNums l0_1).toList != (strOfNums l1_1).toList) = true := bne_iff_ne.mpr c7
    have H' := Aside0.mk H
    clear H
    have hnb13 := NB101_102.out
    have hnc13 := NB102_101.out
    have hcz14_0 : w5.cell? ⟨gb101, 0, none⟩ = some (.int .u64 a0_0) := (blk_cell BK101.out 0).trans rfl
    have hcz14_1 : w5.cell? ⟨gb101, 1, none⟩ = some (.slice A0_1 l0_1.length c0_1) := (blk_cell BK101.out 1).trans rfl
    have hcz14_2 : w5.cell? ⟨gb101, 2, none⟩ = some (.slice A0_2 l0_2.length c0_2) := (blk_cell BK101.out 2).trans rfl
    have hfz14_0 := blk_frozen BK101.out 0
    have hfz14_1 := blk_frozen BK101.out 1
    have hfz14_2 := blk_frozen BK101.out 2
    have hcz15_0 : w5.cell? ⟨gb102, 0, none⟩ = some (.int .u64 a1_0) := (blk_cell BK102.out 0).trans rfl
    have hcz15_1 : w5.cell? ⟨gb102, 1, none⟩ = some (.slice A1_1 l1_1.length c1_1) := (blk_cell BK102.out 1).trans rfl
    have hcz15_2 : w5.cell? ⟨gb102, 2, none⟩ = some (.slice A1_2 l1_2.length c1_2) := (blk_cell BK102.out 2).trans rfl
    have hfz15_0 := blk_frozen BK102.out 0
    have hfz15_1 := blk_frozen BK102.out 1
    have hfz15_2 := blk_frozen BK102.out 2
    have hcv16 := Kd.C_string (P := Tryd.prog) (A := A0_1) (c := c0_1) Tryd.underlying25 Tryd.underlying5 Tryd.underlying9 (Kd.C_below HR0_1.out HB.out)
    have hcv17 := Kd.C_string (P := Tryd.prog) (A := A1_1) (c := c1_1) Tryd.underlying25 Tryd.underlying5 Tryd.underlying9 (Kd.C_below HR1_1.out HB.out)
    go_wp2
    go_meet
    case rel => exact ⟨_, (true), (by first | rfl | (simp; done) | (simp [*]; done)), H', ⟨by first | omega | exact Nat.le_refl _⟩, ⟨by (with_reducible repeat (first | refine blk_drewN ?_ _ | refine blk_drew ?_ | refine blk_alloc ?_ _)); exact BK101.out⟩, ⟨by (with_reducible repeat (first | refine blk_drewN ?_ _ | refine blk_drew ?_ | refine blk_alloc ?_ _)); exact BK102.out⟩, ⟨by repeat (first | (with_reducible first | exact HB.out | apply below_alloc | apply pw_below_drewN | apply below_drew1 | refine below_set ?_ GE101.out | refine below_set ?_ GE102.out) | exact HB.out)⟩⟩
  ·rw [if_neg c6] at H
   have c6b0 : (a0_0 == a1_0) = false := beq_eq_false_iff_ne.mpr c6
   have c6b1 : (a0_0 != a1_0) = true := bne_iff_ne.mpr c6
   (first | rw [c6b0] | (simp only [i64_w, i32_w]; rw [c6b0]) | skip)
   have H' := Aside0.mk H
   clear H
   have hnb18 := NB101_102.out
   have hnc18 := NB102_101.out
   have hcz19_0 : w5.cell? ⟨gb101, 0, none⟩ = some (.int .u64 a0_0) := (blk_cell BK101.out 0).trans rfl
   have hcz19_1 : w5.cell? ⟨gb101, 1, none⟩ = some (.slice A0_1 l0_1.length c0_1) := (blk_cell BK101.out 1).trans rfl
   have hcz19_2 : w5.cell? ⟨gb101, 2, none⟩ = some (.slice A0_2 l0_2.length c0_2) := (blk_cell BK101.out 2).trans rfl
   have hfz19_0 := blk_frozen BK101.out 0
   have hfz19_1 := blk_frozen BK101.out 1
   have hfz19_2 := blk_frozen BK101.out 2
   have hcz20_0 : w5.cell? ⟨gb102, 0, none⟩ = some (.int .u64 a1_0) := (blk_cell BK102.out 0).trans rfl
   have hcz20_1 : w5.cell? ⟨gb102, 1, none⟩ = some (.slice A1_1 l1_1.length c1_1) := (blk_cell BK102.out 1).trans rfl
   have hcz20_2 : w5.cell? ⟨gb102, 2, none⟩ = some (.slice A1_2 l1_2.length c1_2) := (blk_cell BK102.out 2).trans rfl
   have hfz20_0 := blk_frozen BK102.out 0
   have hfz20_1 := blk_frozen BK102.out 1
   have hfz20_2 := blk_frozen BK102.out 2
   go_wp2
   go_meet
   case rel => exact ⟨_, (true), (by first | rfl | (simp; done) | (simp [*]; done)), H', ⟨by first | omega | exact Nat.le_refl _⟩, ⟨by (with_reducible repeat (first | refine blk_drewN ?_ _ | refine blk_drew ?_ | refine blk_alloc ?_ _)); exact BK101.out⟩, ⟨by (with_reducible repeat (first | refine blk_drewN ?_ _ | refine blk_drew ?_ | refine blk_alloc ?_ _)); exact BK102.out⟩, ⟨by repeat (first | (with_reducible first | exact HB.out | apply below_alloc | apply pw_below_drewN | apply below_drew1 | refine below_set ?_ GE101.out | refine below_set ?_ GE102.out) | exact HB.out)⟩⟩
 case rest =>
  clear HC3
  try clear c1
  try clear hcv1
  try clear p2
  try clear c6
  try clear c6b0
  try clear c6b1
  try clear c7
  try clear c7b0
  try clear c7b1
  try clear c8
  try clear hcv11
  try clear hcv12
  try clear c13
  try clear hcv16
  try clear hcv17
  try clear c18
  try clear hcz10_0
  try clear hcz10_1
  try clear hcz10_2
  try clear hcz14_0
  try clear hcz14_1
  try clear hcz14_2
  try clear hcz15_0
  try clear hcz15_1
  try clear hcz15_2
  try clear hcz19_0
  try clear hcz19_1
  try clear hcz19_2
  try clear hcz20_0
  try clear hcz20_1
  try clear hcz20_2
  try clear hcz9_0
  try clear hcz9_1
  try clear hcz9_2
  try clear hfz10_0
  try clear hfz10_1
  try clear hfz10_2
  try clear hfz14_0
  try clear hfz14_1
  try clear hfz14_2
  try clear hfz15_0
  try clear hfz15_1
  try clear hfz15_2
  try clear hfz19_0
  try clear hfz19_1
  try clear hfz19_2
  try clear hfz20_0
  try clear hfz20_1
  try clear hfz20_2
  try clear hfz9_0
  try clear hfz9_1
  try clear hfz9_2
  obtain ⟨kq, x29_2, rfl, HA, HJ2, BK101, BK102, HB⟩ := hcut
  cases kq with
  | zero => exact absurd HA.out (by simp [passepartoutref05_Same.j0])
  | succ kj2 =>
   have H := HA.out
   clear HA
   simp only [passepartoutref05_Same.j0] at H
   by_cases c21 : x29_2 = true
   ·subst c21
    have H1 : (some false) = some r := by rw [if_pos rfl] at H; exact H
    clear H
    have H := H1
    clear H1
    obtain rfl := Option.some.inj H
    go_wp2
    go_ret
    exact ⟨by first | rfl | (simp [errW_none, errW_some] <;> rfl) | (simp [*, errW_none, errW_some] <;> rfl), by repeat (first | (with_reducible first | exact HB.out | apply below_alloc | apply pw_below_drewN | apply below_drew1 | refine below_set ?_ GE101.out | refine below_set ?_ GE102.out) | exact HB.out)⟩
   ·replace c21 := Bool.eq_false_iff.mpr c21
    subst c21
    have H1 : (passepartoutref05_Same.l0 kj2 0 a0_0 l0_1 l0_2 a1_0 l1_1 l1_2) = some r := by rw [if_neg (show ¬ (false = true) by decide)] at H; exact H
    clear H
    have H := H1
    clear H1
    have H' := Aside0.mk H
    clear H
    go_wp2
    go_loopg [5] kj2 (fun kq v5 w' => ∃ (x5_2 : Int), v5 = .int .i64 x5_2 ∧ Aside0 (passepartoutref05_Same.l0 kq x5_2 a0_0 l0_1 l0_2 a1_0 l1_1 l1_2 = some r) ∧ Aside0 (kq ≤ kj2) ∧ Aside0 (w'.heap[gb101]? = some (.cells #[.int .u64 a0_0, (.slice A0_1 l0_1.length c0_1), (.slice A0_2 l0_2.length c0_2)] 31 (0, 0))) ∧ Aside0 (w'.heap[gb102]? = some (.cells #[.int .u64 a1_0, (.slice A1_1 l1_1.length c1_1), (.slice A1_2 l1_2.length c1_2)] 31 (0, 0))) ∧ Aside0 (Below w.heap.size w w'))
    case atStart => exact ⟨(0), (by first | rfl | (simp; done) | (simp [*]; done)), H', ⟨Nat.le_refl _⟩, ⟨by (with_reducible repeat (first | refine blk_drewN ?_ _ | refine blk_drew ?_ | refine blk_alloc ?_ _)); exact BK101.out⟩, ⟨by (with_reducible repeat (first | refine blk_drewN ?_ _ | refine blk_drew ?_ | refine blk_alloc ?_ _)); exact BK102.out⟩, ⟨by repeat (first | (with_reducible first | exact HB.out | apply below_alloc | apply pw_below_drewN | apply below_drew1 | refine below_set ?_ GE101.out | refine below_set ?_ GE102.out) | exact HB.out)⟩⟩
    case round =>
     clear H'
     try clear c1
     try clear hcv1
     try clear c2
     try clear p2
     try clear c6
     try clear c6b0
     try clear c6b1
     try clear c7
     try clear c7b0
     try clear c7b1
     try clear c8
     try clear hcv11
     try clear hcv12
     try clear c13
     try clear hcv16
     try clear hcv17
     try clear c18
     try clear c21
     try clear hcz10_0
     try clear hcz10_1
     try clear hcz10_2
     try clear hcz14_0
     try clear hcz14_1
     try clear hcz14_2
     try clear hcz15_0
     try clear hcz15_1
     try clear hcz15_2
     try clear hcz19_0
     try clear hcz19_1
     try clear hcz19_2
     try clear hcz20_0
     try clear hcz20_1
     try clear hcz20_2
     try clear hcz9_0
     try clear hcz9_1
     try clear hcz9_2
     try clear hfz10_0
     try clear hfz10_1
     try clear hfz10_2
     try clear hfz14_0
     try clear hfz14_1
     try clear hfz14_2
     try clear hfz15_0
     try clear hfz15_1
     try clear hfz15_2
     try clear hfz19_0
     try clear hfz19_1
     try clear hfz19_2
     try clear hfz20_0
     try clear hfz20_1
     try clear hfz20_2
     try clear hfz9_0
     try clear hfz9_1
     try clear hfz9_2
     try clear p2
     obtain ⟨x5_2, rfl, HA, HK2, BK101, BK102, HB⟩ := hrel
     cases gk with
     | zero => exact absurd HA.out (by simp [passepartoutref05_Same.l0])
     | succ k2 =>
      have H := HA.out
      clear HA
      simp only [passepartoutref05_Same.l0] at H
      by_cases c22 : x5_2 < (l0_2.length : Int)
      ·rw [if_pos c22] at H
       have c22b0 : decide (x5_2 < (l0_2.length : Int)) = true := decide_eq_true c22
       clear c22
       by_cases c23 : 0 ≤ x5_2
       ·rw [if_pos c23] at H
        have c23b0 : decide (0 ≤ x5_2) = true := decide_eq_true c23
        clear c23
        by_cases c24 : x5_2 < (l1_2.length : Int)
        ·rw [if_pos c24] at H
         have c24b0 : decide (x5_2 < (l1_2.length : Int)) = true := decide_eq_true c24
         clear c24
         replace H := Option.bind_eq_some_iff.mp H
         obtain ⟨t105, A250, H⟩ := H
         replace H : (if t105 = true then (passepartoutref05_Same.l0 k2 (wrap64 (x5_2 + 1)) a0_0 l0_1 l0_2 a1_0 l1_1 l1_2) else (some false)) = some r := H
         have A25 := Aside0.mk A250
         clear A250
         by_cases c26 : t105 = true
         ·subst c26
          have H1 : (passepartoutref05_Same.l0 k2 (wrap64 (x5_2 + 1)) a0_0 l0_1 l0_2 a1_0 l1_1 l1_2) = some r := by rw [if_pos rfl] at H; exact H
          clear H
          have H := H1
          clear H1
          have H' := Aside0.mk H
          clear H
          have hnb27 := NB101_102.out
          have hnc27 := NB102_101.out
          have hcz28_0 : wr.cell? ⟨gb101, 0, none⟩ = some (.int .u64 a0_0) := (blk_cell BK101.out 0).trans rfl
          have hcz28_1 : wr.cell? ⟨gb101, 1, none⟩ = some (.slice A0_1 l0_1.length c0_1) := (blk_cell BK101.out 1).trans rfl
          have hcz28_2 : wr.cell? ⟨gb101, 2, none⟩ = some (.slice A0_2 l0_2.length c0_2) := (blk_cell BK101.out 2).trans rfl
          have hfz28_0 := blk_frozen BK101.out 0
          have hfz28_1 := blk_frozen BK101.out 1
          have hfz28_2 := blk_frozen BK101.out 2
          try go_wp2
          have n0_ := Aside0.mk (blk_drew BK101.out)
          have n1_ := Aside0.mk (blk_drew BK102.out)
          have n2_ := Aside0.mk (below_drew1 HB.out)
          clear BK101
          clear BK102
          clear HB
          have BK101 := n0_
          have BK102 := n1_
          have HB := n2_
          clear n0_ n1_ n2_
          have p103 : 0 ≤ (x5_2 : Int) := of_decide_eq_true (by first | (with_reducible assumption) | assumption)
          have q103 : x5_2 < (l0_2.length : Int) := of_decide_eq_true (by first | (with_reducible assumption) | assumption)
          obtain ⟨ad103, A103_1, c103_1, A103_2, c103_2, e103, hx103_0, hx103_1, hx103_2, hl103_1, hi103_1, hl103_2, hi103_2⟩ := at_T31 HR0_2.out x5_2 p103 q103
          have hw103_2 := hx103_2
          have hw103_1 := hx103_1
          have hw103_0 := hx103_0
          cases e103
          replace hx103_0 := (HB.out.cell (World.block_lt_of_cell? w _ hx103_0)).trans hx103_0
          replace hx103_1 := (HB.out.cell (World.block_lt_of_cell? w _ hx103_1)).trans hx103_1
          replace hx103_2 := (HB.out.cell (World.block_lt_of_cell? w _ hx103_2)).trans hx103_2
          have HR103_1 := Aside0.mk hi103_1
          have HC103_1 := Aside0.mk hl103_1
          clear hi103_1 hl103_1
          have HR103_2 := Aside0.mk hi103_2
          have HC103_2 := Aside0.mk hl103_2
          clear hi103_2 hl103_2
          replace p103 := eq_true p103
          replace q103 := eq_true q103
          have p104 : 0 ≤ (x5_2 : Int) := of_decide_eq_true (by first | (with_reducible assumption) | assumption)
          have q104 : x5_2 < (l1_2.length : Int) := of_decide_eq_true (by first | (with_reducible assumption) | assumption)
          obtain ⟨ad104, A104_1, c104_1, A104_2, c104_2, e104, hx104_0, hx104_1, hx104_2, hl104_1, hi104_1, hl104_2, hi104_2⟩ := at_T31 HR1_2.out x5_2 p104 q104
          have hw104_2 := hx104_2
          have hw104_1 := hx104_1
          have hw104_0 := hx104_0
          cases e104
          replace hx104_0 := (HB.out.cell (World.block_lt_of_cell? w _ hx104_0)).trans hx104_0
          replace hx104_1 := (HB.out.cell (World.block_lt_of_cell? w _ hx104_1)).trans hx104_1
          replace hx104_2 := (HB.out.cell (World.block_lt_of_cell? w _ hx104_2)).trans hx104_2
          have HR104_1 := Aside0.mk hi104_1
          have HC104_1 := Aside0.mk hl104_1
          clear hi104_1 hl104_1
          have HR104_2 := Aside0.mk hi104_2
          have HC104_2 := Aside0.mk hl104_2
          clear hi104_2 hl104_2
          replace p104 := eq_true p104
          replace q104 := eq_true q104
          refine start_ (n := 12) (S := fun w' => w'.cell? ⟨gb101, 0, none⟩ = some (.int .u64 a0_0) ∧ w'.cell? ⟨gb101, 1, none⟩ = some (.slice A0_1 l0_1.length c0_1) ∧ w'.cell? ⟨gb101, 2, none⟩ = some (.slice (some ad103) l0_2.length c0_2) ∧ w'.cell? ⟨gb102, 0, none⟩ = some (.int .u64 a1_0) ∧ w'.cell? ⟨gb102, 1, none⟩ = some (.slice A1_1 l1_1.length c1_1) ∧ w'.cell? ⟨gb102, 2, none⟩ = some (.slice (some ad104) l1_2.length c1_2) ∧ w'.cell? (ad103.add ((x5_2).toNat * 3)) = some (.int .u64 ((rd_T31 l0_2 x5_2).f0)) ∧ w'.cell? ⟨(ad103.add ((x5_2).toNat * 3)).block, (ad103.add ((x5_2).toNat * 3)).off + 1, none⟩ = some (.slice A103_1 ((rd_T31 l0_2 x5_2).f1).length c103_1) ∧ w'.cell? ⟨(ad103.add ((x5_2).toNat * 3)).block, (ad103.add ((x5_2).toNat * 3)).off + 2, none⟩ = some (.slice A103_2 ((rd_T31 l0_2 x5_2).f2).length c103_2) ∧ w'.cell? (ad104.add ((x5_2).toNat * 3)) = some (.int .u64 ((rd_T31 l1_2 x5_2).f0)) ∧ w'.cell? ⟨(ad104.add ((x5_2).toNat * 3)).block, (ad104.add ((x5_2).toNat * 3)).off + 1, none⟩ = some (.slice A104_1 ((rd_T31 l1_2 x5_2).f1).length c104_1) ∧ w'.cell? ⟨(ad104.add ((x5_2).toNat * 3)).block, (ad104.add ((x5_2).toNat * 3)).off + 2, none⟩ = some (.slice A104_2 ((rd_T31 l1_2 x5_2).f2).length c104_2)) (ds := []) #[false, false, false, false, false, false, false, false, false, false, false, false] (by kernel_rfl) rfl rfl ⟨(blk_cell BK101.out 0).trans rfl, (blk_cell BK101.out 1).trans rfl, (blk_cell BK101.out 2).trans rfl, (blk_cell BK102.out 0).trans rfl, (blk_cell BK102.out 1).trans rfl, (blk_cell BK102.out 2).trans rfl, ((HB.out.cell (World.block_lt_of_cell? w _ hw103_0)).trans hw103_0), ((HB.out.cell (World.block_lt_of_cell? w _ hw103_1)).trans hw103_1), ((HB.out.cell (World.block_lt_of_cell? w _ hw103_2)).trans hw103_2), ((HB.out.cell (World.block_lt_of_cell? w _ hw104_0)).trans hw104_0), ((HB.out.cell (World.block_lt_of_cell? w _ hw104_1)).trans hw104_1), ((HB.out.cell (World.block_lt_of_cell? w _ hw104_2)).trans hw104_2)⟩ (fun hHeld => ?_); refine with_tabW passepartoutref05_Same.tab6 passepartoutref05_Same.bits6 (fun HT_ HW_ => ?_)
          generalize wr.drew = w29 at BK101 BK102 HB HR103_1 HR103_2 HR104_1 HR104_2 hx103_0 hx103_1 hx103_2 hx104_0 hx104_1 hx104_2 hHeld ⊢
          refine pure_ (i := 0) (N := some 37) (v := ?_) (a' := ?_) #[true, false, false, false, false, false, false, false, false, false, false, false] rfl rfl (any_of HT_.out (by kernel_rfl)) (fun _ _ _ h => h) (Or.inl ⟨by rfl, ?_⟩) ?_ ?_
          rotate_left
          ·intro w'
           go_simp
           with_reducible rfl
          rotate_left
          ·simp only [Act.put, List.setIfInBounds_toArray, List.set_cons_zero, List.set_cons_succ, i64_w, i32_w]
           rfl
          refine pure_ (i := 2) (N := some 39) (v := ?_) (a' := ?_) #[true, false, true, false, false, false, false, false, false, false, false, false] rfl rfl (any_of HT_.out (by kernel_rfl)) (fun _ _ _ h => h) (Or.inl ⟨by rfl, ?_⟩) ?_ ?_
          rotate_left
          ·intro w'
           go_simp
           with_reducible rfl
          rotate_left
          ·simp only [Act.put, List.setIfInBounds_toArray, List.set_cons_zero, List.set_cons_succ, i64_w, i32_w]
           rfl
          refine pure_ (i := 5) (N := some 42) (v := ?_) (a' := ?_) #[true, false, true, false, false, true, false, false, false, false, false, false] rfl rfl (any_of HT_.out (by kernel_rfl)) (fun _ _ _ h => h) (Or.inl ⟨by rfl, ?_⟩) ?_ ?_
          rotate_left
          ·intro w'
           go_simp
           with_reducible rfl
          rotate_left
          ·simp only [Act.put, List.setIfInBounds_toArray, List.set_cons_zero, List.set_cons_succ, i64_w, i32_w]
           rfl
          refine pure_ (i := 7) (N := some 44) (v := ?_) (a' := ?_) #[true, false, true, false, false, true, false, true, false, false, false, false] rfl rfl (any_of HT_.out (by kernel_rfl)) (fun _ _ _ h => h) (Or.inl ⟨by rfl, ?_⟩) ?_ ?_
          rotate_left
          ·intro w'
           go_simp
           with_reducible rfl
          rotate_left
          ·simp only [Act.put, List.setIfInBounds_toArray, List.set_cons_zero, List.set_cons_succ, i64_w, i32_w]
           rfl
          refine take_ (i := 1) (N := some 38) (v := ?_) (a' := ?_) #[true, true, true, false, false, true, false, true, false, false, false, false] rfl rfl (take_ofW HT_.out HW_.out (by kernel_rfl)) (fun _ _ _ h => h) (Or.inl ⟨by rfl, ?_⟩) hHeld ?_ ?_
          rotate_left
          ·rintro w' ⟨s0, s1, s2, s3, s4, s5, s6, s7, s8, s9, s10, s11⟩
           go_simp
           with_reducible rfl
          rotate_left
          ·simp only [Act.put, List.setIfInBounds_toArray, List.set_cons_zero, List.set_cons_succ, i64_w, i32_w]
           rfl
          refine pure_ (i := 3) (N := some 40) (v := ?_) (a' := ?_) #[true, true, true, true, false, true, false, true, false, false, false, false] rfl rfl (any_of HT_.out (by kernel_rfl)) (fun _ _ _ h => h) (Or.inl ⟨by rfl, ?_⟩) ?_ ?_
          rotate_left
          ·intro w'
           go_simp
           with_reducible rfl
          rotate_left
          ·simp only [Act.put, List.setIfInBounds_toArray, List.set_cons_zero, List.set_cons_succ, i64_w, i32_w]
           rfl
          refine take_ (i := 4) (N := some 41) (v := ?_) (a' := ?_) #[true, true, true, true, true, true, false, true, false, false, false, false] rfl rfl (take_ofW HT_.out HW_.out (by kernel_rfl)) (fun _ _ _ h => h) (Or.inl ⟨by rfl, ?_⟩) hHeld ?_ ?_
          rotate_left
          ·rintro w' ⟨s0, s1, s2, s3, s4, s5, s6, s7, s8, s9, s10, s11⟩
           go_simp
           with_reducible rfl
          rotate_left
          ·simp only [Act.put, List.setIfInBounds_toArray, List.set_cons_zero, List.set_cons_succ, i64_w, i32_w]
           rfl
          refine take_ (i := 6) (N := some 43) (v := ?_) (a' := ?_) #[true, true, true, true, true, true, true, true, false, false, false, false] rfl rfl (take_ofW HT_.out HW_.out (by kernel_rfl)) (fun _ _ _ h => h) (Or.inl ⟨by rfl, ?_⟩) hHeld ?_ ?_
          rotate_left
          ·rintro w' ⟨s0, s1, s2, s3, s4, s5, s6, s7, s8, s9, s10, s11⟩
           go_simp
           with_reducible rfl
          rotate_left
          ·simp only [Act.put, List.setIfInBounds_toArray, List.set_cons_zero, List.set_cons_succ, i64_w, i32_w]
           rfl
          refine pure_ (i := 8) (N := some 45) (v := ?_) (a' := ?_) #[true, true, true, true, true, true, true, true, true, false, false, false] rfl rfl (any_of HT_.out (by kernel_rfl)) (fun _ _ _ h => h) (Or.inl ⟨by rfl, ?_⟩) ?_ ?_
          rotate_left
          ·intro w'
           go_simp
           with_reducible rfl
          rotate_left
          ·simp only [Act.put, List.setIfInBounds_toArray, List.set_cons_zero, List.set_cons_succ, i64_w, i32_w]
           rfl
          refine take_ (i := 9) (N := some 46) (v := ?_) (a' := ?_) #[true, true, true, true, true, true, true, true, true, true, false, false] rfl rfl (take_ofW HT_.out HW_.out (by kernel_rfl)) (fun _ _ _ h => h) (Or.inl ⟨by rfl, ?_⟩) hHeld ?_ ?_
          rotate_left
          ·rintro w' ⟨s0, s1, s2, s3, s4, s5, s6, s7, s8, s9, s10, s11⟩
           go_simp
           with_reducible rfl
          rotate_left
          ·simp only [Act.put, List.setIfInBounds_toArray, List.set_cons_zero, List.set_cons_succ, i64_w, i32_w]
           rfl
          refine one_ (i := 10) (N := some 47) #[true, true, true, true, true, true, true, true, true, true, true, false] rfl rfl (one_of HT_.out (by kernel_rfl)) (by decide) (fun K hK => ?_)
          refine goes_ Tryd.func13 (by kernel_rfl) rfl #[.agg #[.int .u64 ((rd_T31 l0_2 x5_2).f0), .slice A103_1 ((rd_T31 l0_2 x5_2).f1).length c103_1, .slice A103_2 ((rd_T31 l0_2 x5_2).f2).length c103_2], .agg #[.int .u64 ((rd_T31 l1_2 x5_2).f0), .slice A104_1 ((rd_T31 l1_2 x5_2).f1).length c104_1, .slice A104_2 ((rd_T31 l1_2 x5_2).f2).length c104_2]] (by rfl) rfl rfl (by (try simp only [List.map_toArray, List.map_cons, List.map_nil]); first | done | rfl | (simp only [List.length_drop, List.length_take]; rfl)) ?_
          with_reducible refine (ih k2 (by have := HJ2.out; have := HK2.out; omega) ((rd_T31 l0_2 x5_2).f0) _ _ ((rd_T31 l0_2 x5_2).f1) _ _ ((rd_T31 l0_2 x5_2).f2) ((rd_T31 l1_2 x5_2).f0) _ _ ((rd_T31 l1_2 x5_2).f1) _ _ ((rd_T31 l1_2 x5_2).f2) true _ ?side1 ?side2 ?side3 ?side4 ?side5 ?side6 ?side7 ?side8 A25.out).mono ?_
          (case side1 => repeat (first | exact (Kd.C_below HR103_1.out HB.out) | (with_reducible refine Kd.C_alloc ?_ _) | (with_reducible refine Kd.C_drewN ?_ _) | (with_reducible refine Kd.C_drew ?_)))
          (case side2 => exact HC103_1.out)
          (case side3 => repeat (first | exact (Kd.C_below HR103_2.out HB.out) | (with_reducible refine Kd.C_alloc ?_ _) | (with_reducible refine Kd.C_drewN ?_ _) | (with_reducible refine Kd.C_drew ?_)))
          (case side4 => exact HC103_2.out)
          (case side5 => repeat (first | exact (Kd.C_below HR104_1.out HB.out) | (with_reducible refine Kd.C_alloc ?_ _) | (with_reducible refine Kd.C_drewN ?_ _) | (with_reducible refine Kd.C_drew ?_)))
          (case side6 => exact HC104_1.out)
          (case side7 => repeat (first | exact (Kd.C_below HR104_2.out HB.out) | (with_reducible refine Kd.C_alloc ?_ _) | (with_reducible refine Kd.C_drewN ?_ _) | (with_reducible refine Kd.C_drew ?_)))
          (case side8 => exact HC104_2.out)
          rintro e w30 ⟨rfl, hb⟩
          refine ⟨_, rfl, ?_⟩
          have n0_ := Aside0.mk (blk_below (g := gb101) (o := .cells #[.int .u64 a0_0, .slice A0_1 l0_1.length c0_1, .slice (some ad103) l0_2.length c0_2] 31 (0, 0)) (by (with_reducible repeat (first | refine blk_drewN ?_ _ | refine blk_drew ?_ | refine blk_alloc ?_ _)); exact BK101.out) hb)
          have n1_ := Aside0.mk (blk_below (g := gb102) (o := .cells #[.int .u64 a1_0, .slice A1_1 l1_1.length c1_1, .slice (some ad104) l1_2.length c1_2] 31 (0, 0)) (by (with_reducible repeat (first | refine blk_drewN ?_ _ | refine blk_drew ?_ | refine blk_alloc ?_ _)); exact BK102.out) hb)
          have n2_ := Aside0.mk (below_step (by repeat (first | (with_reducible first | exact HB.out | apply below_alloc | apply pw_below_drewN | apply below_drew1 | refine below_set ?_ GE101.out | refine below_set ?_ GE102.out) | exact HB.out)) hb)
          clear BK101
          clear BK102
          clear HB
          have BK101 := n0_
          have BK102 := n1_
          have HB := n2_
          clear n0_ n1_ n2_
          (try clear hb)
          (try clear hb2)
          (try clear hk)
          (try clear hi)
          refine hK.out _ _ ⟨(blk_cell BK101.out 0).trans rfl, (blk_cell BK101.out 1).trans rfl, (blk_cell BK101.out 2).trans rfl, (blk_cell BK102.out 0).trans rfl, (blk_cell BK102.out 1).trans rfl, (blk_cell BK102.out 2).trans rfl, ((HB.out.cell (World.block_lt_of_cell? w _ hw103_0)).trans hw103_0), ((HB.out.cell (World.block_lt_of_cell? w _ hw103_1)).trans hw103_1), ((HB.out.cell (World.block_lt_of_cell? w _ hw103_2)).trans hw103_2), ((HB.out.cell (World.block_lt_of_cell? w _ hw104_0)).trans hw104_0), ((HB.out.cell (World.block_lt_of_cell? w _ hw104_1)).trans hw104_1), ((HB.out.cell (World.block_lt_of_cell? w _ hw104_2)).trans hw104_2)⟩ (fun hHeld => ?_)
          clear hK K
          refine norm_ (a' := ?_) ?_ ?_
          rotate_left
          ·show Act.put _ (some 47) _ = _
           simp only [Act.put, List.setIfInBounds_toArray, List.set_cons_zero, List.set_cons_succ, i64_w, i32_w]
           rfl
          refine pure_ (i := 11) (N := some 6) (v := ?_) (a' := ?_) #[true, true, true, true, true, true, true, true, true, true, true, true] rfl rfl (any_of HT_.out (by kernel_rfl)) (fun _ _ _ h => h) (Or.inl ⟨by rfl, ?_⟩) ?_ ?_
          rotate_left
          ·intro w'
           go_simp
           with_reducible rfl
          rotate_left
          ·simp only [Act.put, List.setIfInBounds_toArray, List.set_cons_zero, List.set_cons_succ, i64_w, i32_w]
           rfl
          refine done_ (done_of HT_.out (by kernel_rfl)) ?_
          try go_wp2
          go_roundg k2
          case measure => have := HJ2.out; have := HK2.out; omega
          case rel => exact ⟨(wrap64 (x5_2 + 1)), (by first | rfl | (simp; done) | (simp [*]; done)), H', ⟨by have := HJ2.out; have := HK2.out; omega⟩, ⟨by (with_reducible repeat (first | refine blk_drewN ?_ _ | refine blk_drew ?_ | refine blk_alloc ?_ _)); exact BK101.out⟩, ⟨by (with_reducible repeat (first | refine blk_drewN ?_ _ | refine blk_drew ?_ | refine blk_alloc ?_ _)); exact BK102.out⟩, ⟨by repeat (first | (with_reducible first | exact HB.out | apply below_alloc | apply pw_below_drewN | apply below_drew1 | refine below_set ?_ GE101.out | refine below_set ?_ GE102.out) | exact HB.out)⟩⟩
         ·replace c26 := Bool.eq_false_iff.mpr c26
          subst c26
          have H1 : (some false) = some r := by rw [if_neg (show ¬ (false = true) by decide)] at H; exact H
          clear H
          have H := H1
          clear H1
          obtain rfl := Option.some.inj H
          have hnb31 := NB101_102.out
          have hnc31 := NB102_101.out
          have hcz32_0 : wr.cell? ⟨gb101, 0, none⟩ = some (.int .u64 a0_0) := (blk_cell BK101.out 0).trans rfl
          have hcz32_1 : wr.cell? ⟨gb101, 1, none⟩ = some (.slice A0_1 l0_1.length c0_1) := (blk_cell BK101.out 1).trans rfl
          have hcz32_2 : wr.cell? ⟨gb101, 2, none⟩ = some (.slice A0_2 l0_2.length c0_2) := (blk_cell BK101.out 2).trans rfl
          have hfz32_0 := blk_frozen BK101.out 0
          have hfz32_1 := blk_frozen BK101.out 1
          have hfz32_2 := blk_frozen BK101.out 2
          try go_wp2
          have n0_ := Aside0.mk (blk_drew BK101.out)
          have n1_ := Aside0.mk (blk_drew BK102.out)
          have n2_ := Aside0.mk (below_drew1 HB.out)
          clear BK101
          clear BK102
          clear HB
          have BK101 := n0_
          have BK102 := n1_
          have HB := n2_
          clear n0_ n1_ n2_
          have p103 : 0 ≤ (x5_2 : Int) := of_decide_eq_true (by first | (with_reducible assumption) | assumption)
          have q103 : x5_2 < (l0_2.length : Int) := of_decide_eq_true (by first | (with_reducible assumption) | assumption)
          obtain ⟨ad103, A103_1, c103_1, A103_2, c103_2, e103, hx103_0, hx103_1, hx103_2, hl103_1, hi103_1, hl103_2, hi103_2⟩ := at_T31 HR0_2.out x5_2 p103 q103
          have hw103_2 := hx103_2
          have hw103_1 := hx103_1
          have hw103_0 := hx103_0
          cases e103
          replace hx103_0 := (HB.out.cell (World.block_lt_of_cell? w _ hx103_0)).trans hx103_0
          replace hx103_1 := (HB.out.cell (World.block_lt_of_cell? w _ hx103_1)).trans hx103_1
          replace hx103_2 := (HB.out.cell (World.block_lt_of_cell? w _ hx103_2)).trans hx103_2
          have HR103_1 := Aside0.mk hi103_1
          have HC103_1 := Aside0.mk hl103_1
          clear hi103_1 hl103_1
          have HR103_2 := Aside0.mk hi103_2
          have HC103_2 := Aside0.mk hl103_2
          clear hi103_2 hl103_2
          replace p103 := eq_true p103
          replace q103 := eq_true q103
          have p104 : 0 ≤ (x5_2 : Int) := of_decide_eq_true (by first | (with_reducible assumption) | assumption)
          have q104 : x5_2 < (l1_2.length : Int) := of_decide_eq_true (by first | (with_reducible assumption) | assumption)
          obtain ⟨ad104, A104_1, c104_1, A104_2, c104_2, e104, hx104_0, hx104_1, hx104_2, hl104_1, hi104_1, hl104_2, hi104_2⟩ := at_T31 HR1_2.out x5_2 p104 q104
          have hw104_2 := hx104_2
          have hw104_1 := hx104_1
          have hw104_0 := hx104_0
          cases e104
          replace hx104_0 := (HB.out.cell (World.block_lt_of_cell? w _ hx104_0)).trans hx104_0
          replace hx104_1 := (HB.out.cell (World.block_lt_of_cell? w _ hx104_1)).trans hx104_1
          replace hx104_2 := (HB.out.cell (World.block_lt_of_cell? w _ hx104_2)).trans hx104_2
          have HR104_1 := Aside0.mk hi104_1
          have HC104_1 := Aside0.mk hl104_1
          clear hi104_1 hl104_1
          have HR104_2 := Aside0.mk hi104_2
          have HC104_2 := Aside0.mk hl104_2
          clear hi104_2 hl104_2
          replace p104 := eq_true p104
          replace q104 := eq_true q104
          refine start_ (n := 12) (S := fun w' => w'.cell? ⟨gb101, 0, none⟩ = some (.int .u64 a0_0) ∧ w'.cell? ⟨gb101, 1, none⟩ = some (.slice A0_1 l0_1.length c0_1) ∧ w'.cell? ⟨gb101, 2, none⟩ = some (.slice (some ad103) l0_2.length c0_2) ∧ w'.cell? ⟨gb102, 0, none⟩ = some (.int .u64 a1_0) ∧ w'.cell? ⟨gb102, 1, none⟩ = some (.slice A1_1 l1_1.length c1_1) ∧ w'.cell? ⟨gb102, 2, none⟩ = some (.slice (some ad104) l1_2.length c1_2) ∧ w'.cell? (ad103.add ((x5_2).toNat * 3)) = some (.int .u64 ((rd_T31 l0_2 x5_2).f0)) ∧ w'.cell? ⟨(ad103.add ((x5_2).toNat * 3)).block, (ad103.add ((x5_2).toNat * 3)).off + 1, none⟩ = some (.slice A103_1 ((rd_T31 l0_2 x5_2).f1).length c103_1) ∧ w'.cell? ⟨(ad103.add ((x5_2).toNat * 3)).block, (ad103.add ((x5_2).toNat * 3)).off + 2, none⟩ = some (.slice A103_2 ((rd_T31 l0_2 x5_2).f2).length c103_2) ∧ w'.cell? (ad104.add ((x5_2).toNat * 3)) = some (.int .u64 ((rd_T31 l1_2 x5_2).f0)) ∧ w'.cell? ⟨(ad104.add ((x5_2).toNat * 3)).block, (ad104.add ((x5_2).toNat * 3)).off + 1, none⟩ = some (.slice A104_1 ((rd_T31 l1_2 x5_2).f1).length c104_1) ∧ w'.cell? ⟨(ad104.add ((x5_2).toNat * 3)).block, (ad104.add ((x5_2).toNat * 3)).off + 2, none⟩ = some (.slice A104_2 ((rd_T31 l1_2 x5_2).f2).length c104_2)) (ds := []) #[false, false, false, false, false, false, false, false, false, false, false, false] (by kernel_rfl) rfl rfl ⟨(blk_cell BK101.out 0).trans rfl, (blk_cell BK101.out 1).trans rfl, (blk_cell BK101.out 2).trans rfl, (blk_cell BK102.out 0).trans rfl, (blk_cell BK102.out 1).trans rfl, (blk_cell BK102.out 2).trans rfl, ((HB.out.cell (World.block_lt_of_cell? w _ hw103_0)).trans hw103_0), ((HB.out.cell (World.block_lt_of_cell? w _ hw103_1)).trans hw103_1), ((HB.out.cell (World.block_lt_of_cell? w _ hw103_2)).trans hw103_2), ((HB.out.cell (World.block_lt_of_cell? w _ hw104_0)).trans hw104_0), ((HB.out.cell (World.block_lt_of_cell? w _ hw104_1)).trans hw104_1), ((HB.out.cell (World.block_lt_of_cell? w _ hw104_2)).trans hw104_2)⟩ (fun hHeld => ?_); refine with_tabW passepartoutref05_Same.tab6 passepartoutref05_Same.bits6 (fun HT_ HW_ => ?_)
          generalize wr.drew = w33 at BK101 BK102 HB HR103_1 HR103_2 HR104_1 HR104_2 hx103_0 hx103_1 hx103_2 hx104_0 hx104_1 hx104_2 hHeld ⊢
          refine pure_ (i := 0) (N := some 37) (v := ?_) (a' := ?_) #[true, false, false, false, false, false, false, false, false, false, false, false] rfl rfl (any_of HT_.out (by kernel_rfl)) (fun _ _ _ h => h) (Or.inl ⟨by rfl, ?_⟩) ?_ ?_
          rotate_left
          ·intro w'
           go_simp
           with_reducible rfl
          rotate_left
          ·simp only [Act.put, List.setIfInBounds_toArray, List.set_cons_zero, List.set_cons_succ, i64_w, i32_w]
           rfl
          refine pure_ (i := 2) (N := some 39) (v := ?_) (a' := ?_) #[true, false, true, false, false, false, false, false, false, false, false, false] rfl rfl (any_of HT_.out (by kernel_rfl)) (fun _ _ _ h => h) (Or.inl ⟨by rfl, ?_⟩) ?_ ?_
          rotate_left
          ·intro w'
           go_simp
           with_reducible rfl
          rotate_left
          ·simp only [Act.put, List.setIfInBounds_toArray, List.set_cons_zero, List.set_cons_succ, i64_w, i32_w]
           rfl
          refine pure_ (i := 5) (N := some 42) (v := ?_) (a' := ?_) #[true, false, true, false, false, true, false, false, false, false, false, false] rfl rfl (any_of HT_.out (by kernel_rfl)) (fun _ _ _ h => h) (Or.inl ⟨by rfl, ?_⟩) ?_ ?_
          rotate_left
          ·intro w'
           go_simp
           with_reducible rfl
          rotate_left
          ·simp only [Act.put, List.setIfInBounds_toArray, List.set_cons_zero, List.set_cons_succ, i64_w, i32_w]
           rfl
          refine pure_ (i := 7) (N := some 44) (v := ?_) (a' := ?_) #[true, false, true, false, false, true, false, true, false, false, false, false] rfl rfl (any_of HT_.out (by kernel_rfl)) (fun _ _ _ h => h) (Or.inl ⟨by rfl, ?_⟩) ?_ ?_
          rotate_left
          ·intro w'
           go_simp
           with_reducible rfl
          rotate_left
          ·simp only [Act.put, List.setIfInBounds_toArray, List.set_cons_zero, List.set_cons_succ, i64_w, i32_w]
           rfl
          refine take_ (i := 1) (N := some 38) (v := ?_) (a' := ?_) #[true, true, true, false, false, true, false, true, false, false, false, false] rfl rfl (take_ofW HT_.out HW_.out (by kernel_rfl)) (fun _ _ _ h => h) (Or.inl ⟨by rfl, ?_⟩) hHeld ?_ ?_
          rotate_left
          ·rintro w' ⟨s0, s1, s2, s3, s4, s5, s6, s7, s8, s9, s10, s11⟩
           go_simp
           with_reducible rfl
          rotate_left
          ·simp only [Act.put, List.setIfInBounds_toArray, List.set_cons_zero, List.set_cons_succ, i64_w, i32_w]
           rfl
          refine pure_ (i := 3) (N := some 40) (v := ?_) (a' := ?_) #[true, true, true, true, false, true, false, true, false, false, false, false] rfl rfl (any_of HT_.out (by kernel_rfl)) (fun _ _ _ h => h) (Or.inl ⟨by rfl, ?_⟩) ?_ ?_
          rotate_left
          ·intro w'
           go_simp
           with_reducible rfl
          rotate_left
          ·simp only [Act.put, List.setIfInBounds_toArray, List.set_cons_zero, List.set_cons_succ, i64_w, i32_w]
           rfl
          refine take_ (i := 4) (N := some 41) (v := ?_) (a' := ?_) #[true, true, true, true, true, true, false, true, false, false, false, false] rfl rfl (take_ofW HT_.out HW_.out (by kernel_rfl)) (fun _ _ _ h => h) (Or.inl ⟨by rfl, ?_⟩) hHeld ?_ ?_
          rotate_left
          ·rintro w' ⟨s0, s1, s2, s3, s4, s5, s6, s7, s8, s9, s10, s11⟩
           go_simp
           with_reducible rfl
          rotate_left
          ·simp only [Act.put, List.setIfInBounds_toArray, List.set_cons_zero, List.set_cons_succ, i64_w, i32_w]
           rfl
          refine take_ (i := 6) (N := some 43) (v := ?_) (a' := ?_) #[true, true, true, true, true, true, true, true, false, false, false, false] rfl rfl (take_ofW HT_.out HW_.out (by kernel_rfl)) (fun _ _ _ h => h) (Or.inl ⟨by rfl, ?_⟩) hHeld ?_ ?_
          rotate_left
          ·rintro w' ⟨s0, s1, s2, s3, s4, s5, s6, s7, s8, s9, s10, s11⟩
           go_simp
           with_reducible rfl
          rotate_left
          ·simp only [Act.put, List.setIfInBounds_toArray, List.set_cons_zero, List.set_cons_succ, i64_w, i32_w]
           rfl
          refine pure_ (i := 8) (N := some 45) (v := ?_) (a' := ?_) #[true, true, true, true, true, true, true, true, true, false, false, false] rfl rfl (any_of HT_.out (by kernel_rfl)) (fun _ _ _ h => h) (Or.inl ⟨by rfl, ?_⟩) ?_ ?_
          rotate_left
          ·intro w'
           go_simp
           with_reducible rfl
          rotate_left
          ·simp only [Act.put, List.setIfInBounds_toArray, List.set_cons_zero, List.set_cons_succ, i64_w, i32_w]
           rfl
          refine take_ (i := 9) (N := some 46) (v := ?_) (a' := ?_) #[true, true, true, true, true, true, true, true, true, true, false, false] rfl rfl (take_ofW HT_.out HW_.out (by kernel_rfl)) (fun _ _ _ h => h) (Or.inl ⟨by rfl, ?_⟩) hHeld ?_ ?_
          rotate_left
          ·rintro w' ⟨s0, s1, s2, s3, s4, s5, s6, s7, s8, s9, s10, s11⟩
           go_simp
           with_reducible rfl
          rotate_left
          ·simp only [Act.put, List.setIfInBounds_toArray, List.set_cons_zero, List.set_cons_succ, i64_w, i32_w]
           rfl
          refine one_ (i := 10) (N := some 47) #[true, true, true, true, true, true, true, true, true, true, true, false] rfl rfl (one_of HT_.out (by kernel_rfl)) (by decide) (fun K hK => ?_)
          refine goes_ Tryd.func13 (by kernel_rfl) rfl #[.agg #[.int .u64 ((rd_T31 l0_2 x5_2).f0), .slice A103_1 ((rd_T31 l0_2 x5_2).f1).length c103_1, .slice A103_2 ((rd_T31 l0_2 x5_2).f2).length c103_2], .agg #[.int .u64 ((rd_T31 l1_2 x5_2).f0), .slice A104_1 ((rd_T31 l1_2 x5_2).f1).length c104_1, .slice A104_2 ((rd_T31 l1_2 x5_2).f2).length c104_2]] (by rfl) rfl rfl (by (try simp only [List.map_toArray, List.map_cons, List.map_nil]); first | done | rfl | (simp only [List.length_drop, List.length_take]; rfl)) ?_
          with_reducible refine (ih k2 (by have := HJ2.out; have := HK2.out; omega) ((rd_T31 l0_2 x5_2).f0) _ _ ((rd_T31 l0_2 x5_2).f1) _ _ ((rd_T31 l0_2 x5_2).f2) ((rd_T31 l1_2 x5_2).f0) _ _ ((rd_T31 l1_2 x5_2).f1) _ _ ((rd_T31 l1_2 x5_2).f2) false _ ?side1 ?side2 ?side3 ?side4 ?side5 ?side6 ?side7 ?side8 A25.out).mono ?_
          (case side1 => repeat (first | exact (Kd.C_below HR103_1.out HB.out) | (with_reducible refine Kd.C_alloc ?_ _) | (with_reducible refine Kd.C_drewN ?_ _) | (with_reducible refine Kd.C_drew ?_)))
          (case side2 => exact HC103_1.out)
          (case side3 => repeat (first | exact (Kd.C_below HR103_2.out HB.out) | (with_reducible refine Kd.C_alloc ?_ _) | (with_reducible refine Kd.C_drewN ?_ _) | (with_reducible refine Kd.C_drew ?_)))
          (case side4 => exact HC103_2.out)
          (case side5 => repeat (first | exact (Kd.C_below HR104_1.out HB.out) | (with_reducible refine Kd.C_alloc ?_ _) | (with_reducible refine Kd.C_drewN ?_ _) | (with_reducible refine Kd.C_drew ?_)))
          (case side6 => exact HC104_1.out)
          (case side7 => repeat (first | exact (Kd.C_below HR104_2.out HB.out) | (with_reducible refine Kd.C_alloc ?_ _) | (with_reducible refine Kd.C_drewN ?_ _) | (with_reducible refine Kd.C_drew ?_)))
          (case side8 => exact HC104_2.out)
          rintro e w34 ⟨rfl, hb⟩
          refine ⟨_, rfl, ?_⟩
          have n0_ := Aside0.mk (blk_below (g := gb101) (o := .cells #[.int .u64 a0_0, .slice A0_1 l0_1.length c0_1, .slice (some ad103) l0_2.length c0_2] 31 (0, 0)) (by (with_reducible repeat (first | refine blk_drewN ?_ _ | refine blk_drew ?_ | refine blk_alloc ?_ _)); exact BK101.out) hb)
          have n1_ := Aside0.mk (blk_below (g := gb102) (o := .cells #[.int .u64 a1_0, .slice A1_1 l1_1.length c1_1, .slice (some ad104) l1_2.length c1_2] 31 (0, 0)) (by (with_reducible repeat (first | refine blk_drewN ?_ _ | refine blk_drew ?_ | refine blk_alloc ?_ _)); exact BK102.out) hb)
          have n2_ := Aside0.mk (below_step (by repeat (first | (with_reducible first | exact HB.out | apply below_alloc | apply pw_below_drewN | apply below_drew1 | refine below_set ?_ GE101.out | refine below_set ?_ GE102.out) | exact HB.out)) hb)
          clear BK101
          clear BK102
          clear HB
          have BK101 := n0_
          have BK102 := n1_
          have HB := n2_
          clear n0_ n1_ n2_
          (try clear hb)
          (try clear hb2)
          (try clear hk)
          (try clear hi)
          refine hK.out _ _ ⟨(blk_cell BK101.out 0).trans rfl, (blk_cell BK101.out 1).trans rfl, (blk_cell BK101.out 2).trans rfl, (blk_cell BK102.out 0).trans rfl, (blk_cell BK102.out 1).trans rfl, (blk_cell BK102.out 2).trans rfl, ((HB.out.cell (World.block_lt_of_cell? w _ hw103_0)).trans hw103_0), ((HB.out.cell (World.block_lt_of_cell? w _ hw103_1)).trans hw103_1), ((HB.out.cell (World.block_lt_of_cell? w _ hw103_2)).trans hw103_2), ((HB.out.cell (World.block_lt_of_cell? w _ hw104_0)).trans hw104_0), ((HB.out.cell (World.block_lt_of_cell? w _ hw104_1)).trans hw104_1), ((HB.out.cell (World.block_lt_of_cell? w _ hw104_2)).trans hw104_2)⟩ (fun hHeld => ?_)
          clear hK K
          refine norm_ (a' := ?_) ?_ ?_
          rotate_left
          ·show Act.put _ (some 47) _ = _
           simp only [Act.put, List.setIfInBounds_toArray, List.set_cons_zero, List.set_cons_succ, i64_w, i32_w]
           rfl
          refine pure_ (i := 11) (N := some 6) (v := ?_) (a' := ?_) #[true, true, true, true, true, true, true, true, true, true, true, true] rfl rfl (any_of HT_.out (by kernel_rfl)) (fun _ _ _ h => h) (Or.inl ⟨by rfl, ?_⟩) ?_ ?_
          rotate_left
          ·intro w'
           go_simp
           with_reducible rfl
          rotate_left
          ·simp only [Act.put, List.setIfInBounds_toArray, List.set_cons_zero, List.set_cons_succ, i64_w, i32_w]
           rfl
          refine done_ (done_of HT_.out (by kernel_rfl)) ?_
          try go_wp2
          go_ret
          exact ⟨by first | rfl | (simp [errW_none, errW_some] <;> rfl) | (simp [*, errW_none, errW_some] <;> rfl), by repeat (first | (with_reducible first | exact HB.out | apply below_alloc | apply pw_below_drewN | apply below_drew1 | refine below_set ?_ GE101.out | refine below_set ?_ GE102.out) | exact HB.out)⟩
        ·rw [if_neg c24] at H
         exact absurd H (by simp)
       ·rw [if_neg c23] at H
        exact absurd H (by simp)
      ·rw [if_neg c22] at H
       have c22b0 : decide (x5_2 < (l0_2.length : Int)) = false := decide_eq_false c22
       clear c22
       obtain rfl := Option.some.inj H
       have hnb35 := NB101_102.out
       have hnc35 := NB102_101.out
       have hcz36_0 : wr.cell? ⟨gb101, 0, none⟩ = some (.int .u64 a0_0) := (blk_cell BK101.out 0).trans rfl
       have hcz36_1 : wr.cell? ⟨gb101, 1, none⟩ = some (.slice A0_1 l0_1.length c0_1) := (blk_cell BK101.out 1).trans rfl
       have hcz36_2 : wr.cell? ⟨gb101, 2, none⟩ = some (.slice A0_2 l0_2.length c0_2) := (blk_cell BK101.out 2).trans rfl
       have hfz36_0 := blk_frozen BK101.out 0
       have hfz36_1 := blk_frozen BK101.out 1
       have hfz36_2 := blk_frozen BK101.out 2
       go_wp2
       go_ret
       exact ⟨by first | rfl | (simp [errW_none, errW_some] <;> rfl) | (simp [*, errW_none, errW_some] <;> rfl), by repeat (first | (with_reducible first | exact HB.out | apply below_alloc | apply pw_below_drewN | apply below_drew1 | refine below_set ?_ GE101.out | refine below_set ?_ GE102.out) | exact HB.out)⟩

end Go.Proofs.YtdhnfccgojgehaaDoor.QP

namespace Go.Proofs.YtdhnfccgojgehaaDoor
open Go.RowKit YtdhnfccgojgehaaDoorW.PrintWords

theorem cntv_ev (x : Vt) : ∀ m : Nat, m ≤ 2199023255552 → wfV x = true → Ev (fun k => QP.passepartoutref05_Count.f k x.a.n (bI x.a.b) (x.l.map ofV) (m : Int)) ((cntV m x : Nat) : Int) := by
 induction x using RT.induct with
 | h a l ih =>
 intro m hm hw
 obtain ⟨_, _, hl, hws⟩ := (wfV_mk _ _).1 hw
 apply Ev.step
 ·intro k
  simp only [QP.passepartoutref05_Count.f]
  rfl
 rw [cntV]
 have key : ∀ (d j q : Nat), l.length - j = d → j ≤ l.length → 1 ≤ q → q ≤ m + 1 → Ev (fun k => QP.passepartoutref05_Count.l0 k (m : Int) (q : Int) (j : Int) a.n (bI a.b) (l.map ofV)) ((cntVs m q (l.drop j) : Nat) : Int) := by
  intro d
  induction d with
  | zero =>
   intro j q hd hj hq1 hq2
   apply Ev.step
   ·intro k
    simp only [QP.passepartoutref05_Count.l0]
    rfl
   refine Ev.in_ (by simp; omega) ?_
   rw [cntVs_end (by omega)]
   exact Ev.now _
  | succ d ihd =>
   intro j q hd hj hq1 hq2
   have hlt : j < l.length := by omega
   apply Ev.step
   ·intro k
    simp only [QP.passepartoutref05_Count.l0, rd_ofV l j hlt, ofV_f0, ofV_f1, ofV_f2]
    rfl
   refine Ev.ip (by simp; omega) ?_
   refine Ev.sp (fun hqm => ?_) (fun hqm => ?_)
   ·have hqm' : q ≤ m := by omega
    have hb := cntV_bound l[j] (m - q)
    refine Ev.ip (by omega) ?_
    have h1 := ih l[j] (List.getElem_mem hlt) (m - q) (by omega) (hws _ (List.getElem_mem hlt))
    rw [w64 (by omega) (by omega), show (m : Int) - (q : Int) = ((m - q : Nat) : Int) by omega]
    refine Ev.bind h1 ?_
    rw [w64 (by omega) (by omega), w64 (by omega) (by omega), show (q : Int) + ((cntV (m - q) l[j] : Nat) : Int) = ((q + cntV (m - q) l[j] : Nat) : Int) by omega, show (j : Int) + 1 = ((j + 1 : Nat) : Int) by omega]
    refine Ev.eq_ (ihd (j + 1) (q + cntV (m - q) l[j]) (by omega) (by omega) (by omega) (by omega)) ?_
    rw [cntVs_drop (k := j) hlt, if_pos hqm']
   ·rw [cntVs_end (by omega)]
    exact Ev.now _
 have h0 := key l.length 0 1 (by omega) (by omega) (by omega) (by omega)
 rw [List.drop_zero] at h0
 exact h0

theorem bytv_ev (x : Vt) : ∀ m : Nat, m ≤ 100000 → wfV x = true → Ev (fun k => QP.passepartoutref05_Bytes.f k x.a.n (bI x.a.b) (x.l.map ofV) (m : Int)) ((bytV m x : Nat) : Int) := by
 induction x using RT.induct with
 | h a l ih =>
 intro m hm hw
 obtain ⟨_, hbl, hl, hws⟩ := (wfV_mk _ _).1 hw
 apply Ev.step
 ·intro k
  simp only [QP.passepartoutref05_Bytes.f]
  rfl
 rw [bytV]
 simp only [RT.a, RT.l, bI_len]
 have key : ∀ (d j q : Nat), l.length - j = d → j ≤ l.length → q ≤ m + 140737488355328 → Ev (fun k => QP.passepartoutref05_Bytes.l0 k (m : Int) (q : Int) (j : Int) a.n (bI a.b) (l.map ofV)) ((bytVs m q (l.drop j) : Nat) : Int) := by
  intro d
  induction d with
  | zero =>
   intro j q hd hj hq2
   apply Ev.step
   ·intro k
    simp only [QP.passepartoutref05_Bytes.l0]
    rfl
   refine Ev.in_ (by simp; omega) ?_
   rw [bytVs_end (by omega)]
   exact Ev.now _
  | succ d ihd =>
   intro j q hd hj hq2
   have hlt : j < l.length := by omega
   apply Ev.step
   ·intro k
    simp only [QP.passepartoutref05_Bytes.l0, rd_ofV l j hlt, ofV_f0, ofV_f1, ofV_f2]
    rfl
   refine Ev.ip (by simp; omega) ?_
   refine Ev.sp (fun hqm => ?_) (fun hqm => ?_)
   ·have hqm' : q ≤ m := by omega
    have hb := bytV_bound l[j] (m - q) (hws _ (List.getElem_mem hlt)) (by omega)
    refine Ev.ip (by omega) ?_
    have h1 := ih l[j] (List.getElem_mem hlt) (m - q) (by omega) (hws _ (List.getElem_mem hlt))
    rw [w64 (by omega) (by omega), show (m : Int) - (q : Int) = ((m - q : Nat) : Int) by omega]
    refine Ev.bind h1 ?_
    rw [w64 (by omega) (by omega), w64 (by omega) (by omega), show (q : Int) + ((bytV (m - q) l[j] : Nat) : Int) = ((q + bytV (m - q) l[j] : Nat) : Int) by omega, show (j : Int) + 1 = ((j + 1 : Nat) : Int) by omega]
    refine Ev.eq_ (ihd (j + 1) (q + bytV (m - q) l[j]) (by omega) (by omega) (by omega)) ?_
    rw [bytVs_drop (k := j) hlt, if_pos hqm']
   ·rw [bytVs_end (by omega)]
    exact Ev.now _
 have h0 := key l.length 0 a.b.length (by omega) (by omega) (by omega)
 rw [List.drop_zero] at h0
 exact h0

/-- Is a value greater than is looked at? -/
def bigV (x : Vt) : Bool := decide (2000 < cntV 2000 x) || decide (20000 < bytV 20000 x)
theorem Great_ev (f : Fm) (l : List Vt) (hf : wfF f = true) (hl : l.length ≤ 140737488355328) (hw : ∀ x ∈ l, wfV x = true) :
  Ev (fun k => QP.passepartoutlaw05_Great.f k f.a.k f.a.s f.a.lo f.a.hi f.a.st (f.l.map ofF) (l.map ofV)) (if decide (500 < cntR 500 f) || l.any bigV then 1 else 0) := by
 simp only [QP.passepartoutlaw05_Great.f]
 refine Ev.bind (cnt_ev f 500 (by omega) hf) ?_
 by_cases h5 : 500 < cntR 500 f
 ·refine Ev.rp (by simp [h5]) ?_
  exact Ev.ip (by omega) (Ev.now _)
 refine Ev.in_ (by omega) ?_
 rw [List.length_map]
 have key : ∀ (d j : Nat), l.length - j = d → j ≤ l.length → Ev (fun k => QP.passepartoutlaw05_Great.l0 k (l.map ofV) (l.length : Int) (j : Int)) (if (l.drop j).any bigV then 1 else 0) := by
  intro d
  induction d with
  | zero =>
   intro j hd hj
   apply Ev.step
   ·intro k
    simp only [QP.passepartoutlaw05_Great.l0]
    rfl
   refine Ev.rn (by rw [List.drop_of_length_le (by omega)]; simp) ?_
   exact Ev.in_ (by omega) (Ev.now _)
  | succ d ihd =>
   intro j hd hj
   have hlt : j < l.length := by omega
   have hwj := hw _ (List.getElem_mem hlt)
   apply Ev.step
   ·intro k
    simp only [QP.passepartoutlaw05_Great.l0, rd_ofV l j hlt, ofV_f0, ofV_f1, ofV_f2]
    rfl
   refine Ev.ip (by omega) (Ev.ip (by omega) (Ev.ip (by rw [List.length_map]; omega) ?_))
   refine Ev.bind (cntv_ev l[j] 2000 (by omega) hwj) ?_
   rw [List.drop_eq_getElem_cons hlt, List.any_cons]
   by_cases h1 : 2000 < cntV 2000 l[j]
   ·refine Ev.rp (by simp [bigV, h1]) (Ev.ip (by omega) (Ev.now _))
   refine Ev.in_ (by omega) (Ev.bind (bytv_ev l[j] 20000 (by omega) hwj) ?_)
   by_cases h2 : 20000 < bytV 20000 l[j]
   ·refine Ev.rp (by simp [bigV, h2]) (Ev.ip (by omega) (Ev.now _))
   refine Ev.in_ (by omega) ?_
   rw [w64 (by omega) (by omega), show (j : Int) + 1 = ((j + 1 : Nat) : Int) by omega]
   have e : bigV l[j] = false := by simp [bigV, h1, h2]
   rw [e, Bool.false_or]
   exact ihd (j + 1) (by omega) (by omega)
 have h0 := key l.length 0 (by omega) (by omega)
 rw [List.drop_zero] at h0
 rw [decide_eq_false h5, Bool.false_or]
 exact h0

theorem strOf_list (a : List UInt8) : (strOfNums (bI a)).toList = a := by
 have e : strOfNums (bI a) = str a := by
  unfold strOfNums str
  have := iB_bI a
  unfold iB at this
  rw [this]
 rw [e]
 have := ByteArray.toList_eq (str a)
 rw [this]
 exact str_toList a
theorem strOf_bI (a b : List UInt8) : (strOfNums (bI a)).toList = (strOfNums (bI b)).toList ↔ a = b := by
 rw [strOf_list, strOf_list]
theorem same05_ev (x : Vt) : ∀ y : Vt, wfV x = true → wfV y = true → Ev (fun k => QP.passepartoutref05_Same.f k x.a.n (bI x.a.b) (x.l.map ofV) y.a.n (bI y.a.b) (y.l.map ofV)) (sameV x y) := by
 induction x using RT.induct with
 | h a l ih =>
 intro y hx hy
 obtain ⟨b, m⟩ := y
 obtain ⟨_, _, hl, hws⟩ := (wfV_mk _ _).1 hx
 obtain ⟨_, _, hm, hwm⟩ := (wfV_mk _ _).1 hy
 rw [sameV_mk]
 simp only [RT.a, RT.l]
 apply Ev.step
 ·intro k
  simp only [QP.passepartoutref05_Same.f]
  rfl
 have hno : Ev (fun k => QP.passepartoutref05_Same.j0 k true a.n (bI a.b) (l.map ofV) b.n (bI b.b) (m.map ofV)) false := by
  apply Ev.step
  ·intro k
   simp only [QP.passepartoutref05_Same.j0]
   rfl
  exact Ev.ip (by simp) (Ev.now _)
 by_cases hn : a.n = b.n
 rotate_left
 ·rw [decide_eq_false hn, Bool.false_and]
  exact Ev.in_ hn hno
 rw [decide_eq_true hn, Bool.true_and]
 refine Ev.ip hn ?_
 by_cases hb : a.b = b.b
 rotate_left
 ·rw [decide_eq_false hb, Bool.false_and]
  exact Ev.in_ (fun h => hb ((strOf_bI _ _).1 h)) hno
 rw [decide_eq_true hb, Bool.true_and]
 refine Ev.ip ((strOf_bI _ _).2 hb) ?_
 rw [List.length_map, List.length_map]
 by_cases hlen : l.length = m.length
 rotate_left
 ·rw [sameVs_len hlen, show ((l.length : Int) != (m.length : Int)) = true by simp; omega]
  exact hno
 rw [show ((l.length : Int) != (m.length : Int)) = false by simp; omega]
 have key : ∀ (d j : Nat), l.length - j = d → j ≤ l.length → Ev (fun k => QP.passepartoutref05_Same.l0 k (j : Int) a.n (bI a.b) (l.map ofV) b.n (bI b.b) (m.map ofV)) (sameVs (l.drop j) (m.drop j)) := by
  intro d
  induction d with
  | zero =>
   intro j hd hj
   apply Ev.step
   ·intro k
    simp only [QP.passepartoutref05_Same.l0]
    rfl
   rw [sameVs_end (by omega) (by omega)]
   exact Ev.in_ (by simp; omega) (Ev.now _)
  | succ d ihd =>
   intro j hd hj
   have hlt : j < l.length := by omega
   have hlm : j < m.length := by omega
   apply Ev.step
   ·intro k
    simp only [QP.passepartoutref05_Same.l0, rd_ofV l j hlt, rd_ofV m j hlm, ofV_f0, ofV_f1, ofV_f2]
    rfl
   refine Ev.ip (by simp; omega) (Ev.ip (by omega) (Ev.ip (by simp; omega) ?_))
   refine Ev.bind (ih l[j] (List.getElem_mem hlt) m[j] (hws _ (List.getElem_mem hlt)) (hwm _ (List.getElem_mem hlm))) ?_
   rw [sameVs_drop hlt hlm, w64 (by omega) (by omega), show (j : Int) + 1 = ((j + 1 : Nat) : Int) by omega]
   cases sameV l[j] m[j]
   ·rw [Bool.false_and]
    exact Ev.in_ (by simp) (Ev.now _)
   ·rw [Bool.true_and]
    exact Ev.ip rfl (ihd (j + 1) (by omega) (by omega))
 apply Ev.step
 ·intro k
  simp only [QP.passepartoutref05_Same.j0]
  rfl
 refine Ev.in_ (by simp) ?_
 have h0 := key l.length 0 (by omega) (by omega)
 rw [List.drop_zero, List.drop_zero] at h0
 exact h0
end Go.Proofs.YtdhnfccgojgehaaDoor

namespace Go.Proofs.YtdhnfccgojgehaaDoor

def be (l : List UInt8) : Nat := l.foldl (fun x b => x * 256 + b.toNat) 0
theorem be_snoc (l : List UInt8) (b : UInt8) : be (l ++ [b]) = be l * 256 + b.toNat := by simp [be]
theorem be_lt (l : List UInt8) : be l < 256 ^ l.length := by
 obtain ⟨m, rfl⟩ : ∃ m : List UInt8, l = m.reverse := ⟨l.reverse, by simp⟩
 induction m with
 | nil => simp [be]
 | cons b m ih =>
  rw [List.reverse_cons, be_snoc, List.length_append, List.length_singleton, Nat.pow_succ]
  have := b.toNat_lt
  omega
theorem be_take (l : List UInt8) (k : Nat) (h : k < l.length) : be (l.take (k + 1)) = be (l.take k) * 256 + l[k].toNat := by
 rw [List.take_succ_eq_append_getElem h, be_snoc]

theorem be_small (l : List UInt8) (k : Nat) (hk : k < l.length) (h8 : l.length ≤ 8) : be (l.take k) < 72057594037927936 := by
 have h := be_lt (l.take k)
 have h1 : (l.take k).length ≤ 7 := by simp; omega
 have h2 : 256 ^ (l.take k).length ≤ 256 ^ 7 := Nat.pow_le_pow_right (by omega) h1
 omega
theorem or_byte (x b : Nat) (hb : b < 256) (hx : x < 72057594037927936) : bits .or .u64 (IntKind.u64.wrap ((x : Int) * 256)) (b : Int) = ((x * 256 + b : Nat) : Int) := by
 rw [IntKind.wrap_u64]
 have e : ((x : Int) * 256) % 18446744073709551616 = ((x * 256 : Nat) : Int) := by omega
 rw [e, u64_or_nat _ _ (by omega) (by omega)]
 have := Nat.two_pow_add_eq_or_of_lt (i := 8) (b := b) (by omega) x
 rw [show x * 256 = 2 ^ 8 * x from by omega, this]

/-- May a number have so many bytes? -/
def szB (n : Int) : Bool := decide (1 ≤ n ∧ n ≤ 4) || decide (n = 8)
theorem szB_true {n : Int} (h : szB n = true) : 1 ≤ n ∧ n ≤ 8 ∧ (4 < n → n = 8) := by
 simp only [szB, Bool.or_eq_true, decide_eq_true_eq] at h
 omega
theorem szB_false {n : Int} (h : szB n = false) : n < 1 ∨ (4 < n ∧ n ≠ 8) := by
 simp only [szB, Bool.or_eq_false_iff, decide_eq_false_iff_not] at h
 omega

/-- A number's bytes, so many, the highest first. -/
def beB : Nat → Nat → List UInt8
 | 0, _ => []
 | n + 1, x => beB n (x / 256) ++ [UInt8.ofNat x]
theorem beB_be (l : List UInt8) : beB l.length (be l) = l := by
 obtain ⟨m, rfl⟩ : ∃ m : List UInt8, l = m.reverse := ⟨l.reverse, by simp⟩
 induction m with
 | nil => rfl
 | cons b m ih =>
  rw [List.reverse_cons, be_snoc, List.length_append, List.length_singleton, beB]
  have hb := b.toNat_lt
  have h1 : (be m.reverse * 256 + b.toNat) / 256 = be m.reverse := by omega
  rw [h1, ih]
  congr 2
  apply UInt8.toNat_inj.1
  rw [UInt8.toNat_ofNat']
  omega
end Go.Proofs.YtdhnfccgojgehaaDoor

namespace Go.Proofs.YtdhnfccgojgehaaDoor

/-- The next n bytes, the error. -/
def nx (l : List UInt8) (n : Int) : List UInt8 × Int := if n < 0 then ([], 2) else if (l.length : Int) < n then ([], 4) else (l.take n.toNat, 0)

theorem nx_neg {l : List UInt8} {n : Int} (h : n < 0) : nx l n = ([], 2) := by rw [nx, if_pos h]
theorem nx_short {l : List UInt8} {n : Int} (h0 : 0 ≤ n) (h : (l.length : Int) < n) : nx l n = ([], 4) := by rw [nx, if_neg (by omega), if_pos h]
theorem nx_ok {l : List UInt8} {n : Int} (h0 : 0 ≤ n) (h : n ≤ l.length) : nx l n = (l.take n.toNat, 0) := by rw [nx, if_neg (by omega), if_neg (by omega)]
theorem nx_cases (l : List UInt8) (n : Int) : ((nx l n).2 = 0 ∧ 0 ≤ n ∧ n ≤ l.length ∧ (nx l n).1 = l.take n.toNat) ∨ ((nx l n).2 ≠ 0 ∧ (n < 0 ∨ (l.length : Int) < n) ∧ (nx l n).1 = []) := by
 rcases Int.lt_or_le n 0 with h | h
 ·rw [nx_neg h]
  exact .inr ⟨by simp, .inl h, rfl⟩
 ·rcases Int.lt_or_le (l.length : Int) n with h1 | h1
  ·rw [nx_short h h1]
   exact .inr ⟨by simp, .inr h1, rfl⟩
  ·rw [nx_ok h h1]
   exact .inl ⟨rfl, h, h1, rfl⟩
theorem nx_pre (l : List UInt8) (n : Int) : (nx l n).1 = l.take (nx l n).1.length := by
 unfold nx
 split
 ·simp
 ·split
  ·simp
  ·simp
theorem nx_len (l : List UInt8) (n : Int) : (nx l n).1.length ≤ l.length := by
 rw [nx_pre]; simp; omega

theorem nx_le (l : List UInt8) (n : Int) : (nx l n).1.length ≤ n.toNat := by
 unfold nx
 split
 ·simp
 ·split
  ·simp
  ·simp; omega

def nn (l : List UInt8) (n : Int) : List UInt8 × Int := if szB n = true then nx l n else ([], 2)

end Go.Proofs.YtdhnfccgojgehaaDoor

namespace Go.Proofs.YtdhnfccgojgehaaDoor
open Go.RowKit

/-- A cursor at block g: the bytes ahead, its place. -/
def Cur (w : World) (ok : Nat → Prop) (g : Nat) (l : List UInt8) (at_ : Int) : Prop :=
 ∃ v, BR w ok v l ∧ Blk w g 96 #[v, .int .i64 at_]

section
variable {w w' : World} {ok ok' S : Nat → Prop} {g : Nat} {l : List UInt8} {a : Int}
theorem Cur.kp (h : Cur w ok g l a) (hk : Kp S w w') (hd : ∀ i, ok i → ¬ S i) (hg : ¬ S g) : Cur w' ok g l a := by
 obtain ⟨v, h1, h2⟩ := h
 exact ⟨v, h1.kp hk hd, h2.kp hk hg⟩
theorem Cur.lt (h : Cur w ok g l a) : g < w.heap.size := by
 obtain ⟨v, h1, h2⟩ := h
 exact h2.lt
theorem Cur.mono (h : Cur w ok g l a) (hd : ∀ i, ok i → ok' i) : Cur w ok' g l a := by
 obtain ⟨v, h1, h2⟩ := h
 exact ⟨v, h1.mono hd, h2⟩
end

/-- What a call of next leaves. -/
def NextP (ok : Nat → Prop) (g : Nat) (l : List UInt8) (a n : Int) (w : World) (e : Ending) (w' : World) : Prop :=
 ∃ v, e = .returned (.tuple #[v, .int .i64 (nx l n).2]) ∧ BR w' ok v (nx l n).1 ∧ Cur w' ok g (l.drop (nx l n).1.length) (a + (nx l n).1.length) ∧ Kp (· = g) w w'

theorem next_done {w : World} {ok : Nat → Prop} {g : Nat} {l : List UInt8} {a : Int} {A A' : Option Addr} {n c : Nat} (hr : Rd w ok 1 A l.length (bc l)) (hb : Blk w g 96 #[.slice A l.length c, .int .i64 a])
  (hok : ¬ ok g) (hn : n ≤ l.length) (hlc : l.length ≤ c) (hA : A' = if c = n then A else A.map (·.add n)) :
  NextP ok g l a n w (.returned (.tuple #[.slice A n n, .int .i64 0])) ((w.setCell ⟨g, 0, none⟩ (.slice A' (l.length - n) (c - n))).setCell ⟨g, 1, none⟩ (.int .i64 (a + n))) := by
 have hk : Kp (· = g) w ((w.setCell ⟨g, 0, none⟩ (.slice A' (l.length - n) (c - n))).setCell ⟨g, 1, none⟩ (.int .i64 (a + n))) :=
  ((Kp.refl (· = g) w).setCell (p := ⟨g, 0, none⟩) (.inl rfl) _).setCell (p := ⟨g, 1, none⟩) (.inl rfl) _
 have hlt : (l.take (n : Int).toNat).length = n := by simp; omega
 have hB : BR ((w.setCell ⟨g, 0, none⟩ (.slice A' (l.length - n) (c - n))).setCell ⟨g, 1, none⟩ (.int .i64 (a + n))) ok (.slice A' (l.length - n) (c - n)) (l.drop n) := by
  refine ⟨A', c - n, by rw [List.length_drop], by rw [List.length_drop]; omega, ?_⟩
  have := (hr.cut hn hlc).kp hk (fun i hi hg => hok (hg ▸ hi))
  rw [Nat.mul_one, bc_drop] at this
  rw [List.length_drop]
  rw [← hA] at this
  exact this
 rw [NextP, nx_ok (by omega) (by omega)]
 refine ⟨_, rfl, ⟨A, n, ?_, ?_, ?_⟩, ?_, hk⟩
 ·simp only [hlt]
 ·simp only [hlt]; exact Nat.le_refl _
 ·have := (hr.take hn).kp hk (fun i hi hg => hok (hg ▸ hi))
  rw [Nat.mul_one, bc_take] at this
  simp only [hlt]
  exact this
 ·refine ⟨.slice A' (l.length - n) (c - n), ?_, ?_⟩
  ·simp only [hlt]; exact hB
  ·have := (hb.set_ 0 (.slice A' (l.length - n) (c - n))).set_ 1 (.int .i64 (a + n))
   simp only [hlt]
   exact this

theorem next_any (ok : Nat → Prop) (g : Nat) (l : List UInt8) (a : Int) (n : Int) (w : World) (hc : Cur w ok g l a) (hok : ¬ ok g) (_hl : l.length ≤ 140737488351232) (ha : 0 ≤ a) (hal : a + l.length ≤ 9223372036854775807) :
  Calls Tryd.prog 85 #[.pointer (some ⟨g, 0, none⟩), .int .i64 n] w (NextP ok g l a n w) := by
 by_cases hneg : n < 0
 ·have hP : NextP ok g l a n w (.returned (.tuple #[.slice none 0 0, .int .i64 2])) w := by
   rw [NextP, nx_neg hneg]
   exact ⟨_, rfl, BR.nil, by simpa using hc, Kp.refl _ _⟩
  go_enter Tryd.func85, Tryd.ntmps85
  go_wp2_with fail
  go_ret2
  exact hP
 by_cases hlong : (l.length : Int) < n
 ·have hP : NextP ok g l a n w (.returned (.tuple #[.slice none 0 0, .int .i64 4])) w := by
   rw [NextP, nx_short (by omega) hlong]
   exact ⟨_, rfl, BR.nil, by simpa using hc, Kp.refl _ _⟩
  obtain ⟨v, ⟨A, c, rfl, hlc, hr⟩, hb⟩ := hc
  have hc0 : w.cell? ⟨g, 0, none⟩ = some (.slice A l.length c) := hb.cell 0
  go_enter Tryd.func85, Tryd.ntmps85
  go_wp2_with fail
  go_ret2
  exact hP
 ·obtain ⟨n, rfl⟩ := Int.eq_ofNat_of_zero_le (Int.not_lt.1 hneg)
  have hn : n ≤ l.length := by omega
  obtain ⟨v, ⟨A, c, rfl, hlc, hr⟩, hb⟩ := hc
  have hP : ∀ A' d, (A' = if c = n then A else A.map (·.add n)) → d = c - n → NextP ok g l a n w (.returned (.tuple #[.slice A n n, .int .i64 0])) ((w.setCell ⟨g, 0, none⟩ (.slice A' (l.length - n) d)).setCell ⟨g, 1, none⟩ (.int .i64 (a + n))) := by
   rintro A' d h rfl
   exact next_done hr hb hok hn hlc h
  have hc0 : w.cell? ⟨g, 0, none⟩ = some (.slice A l.length c) := hb.cell 0
  have hc1 : w.cell? ⟨g, 1, none⟩ = some (.int .i64 a) := hb.cell 1
  have hf0 : w.frozen? ⟨g, 0, none⟩ = false := hb.frozen 0
  have hf1 : w.frozen? ⟨g, 1, none⟩ = false := hb.frozen 1
  go_enter Tryd.func85, Tryd.ntmps85
  go_wp2_with fail
  all_goals go_ret2
  ·exact hP _ _ (by simp [*]) (by omega)
  ·exact hP _ _ (by simp [*]) (by omega)

/-! ### Places. -/
theorem new_any (ok : Nat → Prop) (v : Value) (l : List UInt8) (a : Int) (w : World) (hv : BR w ok v l) :
  Calls Tryd.prog 40 #[v, .int .i64 a] w fun e w' => ∃ g, e = .returned (.pointer (some ⟨g, 0, none⟩)) ∧ w.heap.size ≤ g ∧ Cur w' ok g l a ∧ Kp (fun _ => False) w w' := by
 have hP : Cur (w.alloc (.cells #[v, .int .i64 a] 96)) ok w.heap.size l a ∧ Kp (fun _ => False) w (w.alloc (.cells #[v, .int .i64 a] 96)) :=
  ⟨⟨v, hv.kp ((Kp.refl (fun _ => False) w).alloc _) (fun _ _ h => h), Blk.new _ _ _⟩, (Kp.refl _ w).alloc _⟩
 obtain ⟨A, c, rfl, _, _⟩ := hv
 go_enter Tryd.func40, Tryd.ntmps40
 go_wp2_with fail
 go_ret
 exact ⟨_, rfl, Nat.le_refl _, hP⟩

theorem at_any (ok : Nat → Prop) (g : Nat) (l : List UInt8) (a : Int) (w : World) (hc : Cur w ok g l a) :
  Calls Tryd.prog 43 #[.pointer (some ⟨g, 0, none⟩)] w fun e w' => e = .returned (.int .i64 a) ∧ w = w' := by
 obtain ⟨v, _, hb⟩ := hc
 have hc1 : w.cell? ⟨g, 1, none⟩ = some (.int .i64 a) := hb.cell 1
 go_enter Tryd.func43, Tryd.ntmps43
 go_wp2_with fail
 go_ret
 exact ⟨rfl, rfl⟩

theorem left_any (ok : Nat → Prop) (g : Nat) (l : List UInt8) (a : Int) (w : World) (hc : Cur w ok g l a) :
  Calls Tryd.prog 42 #[.pointer (some ⟨g, 0, none⟩)] w fun e w' => e = .returned (.int .i64 l.length) ∧ w = w' := by
 obtain ⟨v, ⟨A, c, rfl, _, _⟩, hb⟩ := hc
 have hc0 : w.cell? ⟨g, 0, none⟩ = some (.slice A l.length c) := hb.cell 0
 go_enter Tryd.func42, Tryd.ntmps42
 go_wp2_with fail
 go_ret
 exact ⟨rfl, rfl⟩

theorem end_any (ok : Nat → Prop) (g : Nat) (l : List UInt8) (a : Int) (w : World) (hc : Cur w ok g l a) (ha : 0 ≤ a) (hal : a + l.length ≤ 9223372036854775807) :
  Calls Tryd.prog 82 #[.pointer (some ⟨g, 0, none⟩)] w fun e w' => e = .returned (.int .i64 (a + l.length)) ∧ w = w' := by
 go_enter Tryd.func82, Tryd.ntmps82
 go_wp2_with (first | (go_at_call 43; refine (at_any ok g l a _ hc).mono ?_; rintro e w' ⟨rfl, rfl⟩) | (go_at_call 42; refine (left_any ok g l a _ hc).mono ?_; rintro e w' ⟨rfl, rfl⟩))
 go_ret
 exact ⟨rfl, rfl⟩

/-! ### Numbers. -/
def NumP (ok : Nat → Prop) (g : Nat) (l : List UInt8) (a n : Int) (w : World) (e : Ending) (w' : World) : Prop :=
 e = .returned (.tuple #[.int .u64 (be (nn l n).1), .int .i64 (nn l n).2]) ∧ Cur w' ok g (l.drop (nn l n).1.length) (a + (nn l n).1.length) ∧ Kp (· = g) w w'

theorem number_any (ok : Nat → Prop) (g : Nat) (l : List UInt8) (a : Int) (n : Int) (w : World) (hc : Cur w ok g l a) (hok : ¬ ok g) (hl : l.length ≤ 140737488351232) (ha : 0 ≤ a) (hal : a + l.length ≤ 9223372036854775807) :
  Calls Tryd.prog 81 #[.pointer (some ⟨g, 0, none⟩), .int .i64 n] w (NumP ok g l a n w) := by
 by_cases hs : szB n = true
 ·obtain ⟨h1, h8, h48⟩ := szB_true hs
  have hnn : nn l n = nx l n := by rw [nn, if_pos hs]
  obtain ⟨got, er, hgot⟩ : ∃ got er, nx l n = (got, er) := ⟨_, _, rfl⟩
  have hlen : got.length ≤ 8 := by have := nx_le l n; rw [hgot] at this; simp only at this; omega
  have hnext : Calls Tryd.prog 85 #[.pointer (some ⟨g, 0, none⟩), .int .i64 n] w fun e w' => ∃ A c, e = .returned (.tuple #[.slice A got.length c, .int .i64 er]) ∧
    Rd w' ok 1 A got.length (bc got) ∧ Cur w' ok g (l.drop got.length) (a + got.length) ∧ Kp (· = g) w w' := by
   refine (next_any ok g l a n w hc hok hl ha hal).mono ?_
   rintro e w' ⟨v, rfl, ⟨A, c, rfl, hlc, hr⟩, hcur, hkp⟩
   rw [hgot] at hr hcur ⊢
   exact ⟨A, c, rfl, hr, hcur, hkp⟩
  have hfin : ∀ w', Cur w' ok g (l.drop got.length) (a + got.length) → Kp (· = g) w w' → NumP ok g l a n w (.returned (.tuple #[.int .u64 (be got), .int .i64 er])) w' := by
   intro w' h1 h2
   rw [NumP, hnn, hgot]
   exact ⟨rfl, h1, h2⟩
  have HN := Lib.hid hnext
  have HF := Lib.hid hfin
  have h48' : n ≤ 4 ∨ n = 8 := by omega
  clear hnext hfin h48 hnn hgot hs
  go_enter Tryd.func81, Tryd.ntmps81
  rcases h48' with h4 | rfl
  all_goals
   go_wp2_with (go_at_call 85; refine (HN.out).mono ?_; rintro e w' ⟨A, c, rfl, hr, hcur, hkp⟩)
   go_loop [8, 32] (fun x i => ∃ k : Nat, k ≤ got.length ∧ i = .int .i64 k ∧ x = .int .u64 (be (got.take k))) (fun _ i => got.length - (intOf i).toNat)
   case atStart => exact ⟨0, Nat.zero_le _, rfl, rfl⟩
   case round =>
    obtain ⟨k, hk, rfl, rfl⟩ := hrel
    by_cases hlt : k < got.length
    ·obtain ⟨b, off, rfl, hbok, hcell⟩ := hr.byte hlt
     have hbt := (got[k]).toNat_lt
     go_wp2_with fail
     go_round
     case rel => exact ⟨k + 1, by omega, by go_num, by rw [be_take _ _ hlt, or_byte _ _ (by omega) (be_small _ _ hlt hlen)]⟩
     case measure => simp [intOf]; omega
    ·obtain rfl : k = got.length := by omega
     go_wp2_with fail
     go_ret2
     have := HF.out _ hcur hkp
     simpa using this
 ·have hP : NumP ok g l a n w (.returned (.tuple #[.int .u64 0, .int .i64 2])) w := by
   rw [NumP, nn, if_neg hs]
   exact ⟨rfl, by simpa using hc, Kp.refl _ _⟩
  have h := szB_false (by simpa using hs)
  go_enter Tryd.func81, Tryd.ntmps81
  rcases h with h | ⟨h, h'⟩
  ·go_wp2_with fail
   go_ret2
   exact hP
  ·have hb : (n != 8) = true := by simpa using h'
   go_wp2_with fail
   go_ret2
   exact hP

/-! ### Bytes taken. -/
theorem u8_info : (Tryd.prog.info? 5).map (fun i => (i.zero, i.size, i.bytes)) = some (some (.int .u8 0), 1, 1) := by kernel_rfl

def TakeP (ok : Nat → Prop) (g : Nat) (l : List UInt8) (a n : Int) (w : World) (e : Ending) (w' : World) : Prop :=
 ∃ v, e = .returned (.tuple #[v, .int .i64 (nx l n).2]) ∧ BR w' (fun k => w.heap.size ≤ k) v (nx l n).1 ∧ Cur w' ok g (l.drop (nx l n).1.length) (a + (nx l n).1.length) ∧ Kp (· = g) w w'

theorem take_any (ok : Nat → Prop) (g : Nat) (l : List UInt8) (a : Int) (n : Int) (w : World) (hc : Cur w ok g l a) (hok : ¬ ok g) (hl : l.length ≤ 140737488351232) (ha : 0 ≤ a) (hal : a + l.length ≤ 9223372036854775807) :
  Calls Tryd.prog 109 #[.pointer (some ⟨g, 0, none⟩), .int .i64 n] w (TakeP ok g l a n w) := by
 obtain ⟨got, er, hgot⟩ : ∃ got er, nx l n = (got, er) := ⟨_, _, rfl⟩
 have hlen : got.length ≤ 140737488351232 := by have := nx_len l n; rw [hgot] at this; simp only at this; omega
 have hg := hc.lt
 have hnext : Calls Tryd.prog 85 #[.pointer (some ⟨g, 0, none⟩), .int .i64 n] w fun e w' => ∃ A c, e = .returned (.tuple #[.slice A got.length c, .int .i64 er]) ∧
   Rd w' ok 1 A got.length (bc got) ∧ Cur w' ok g (l.drop got.length) (a + got.length) ∧ Kp (· = g) w w' := by
  refine (next_any ok g l a n w hc hok hl ha hal).mono ?_
  rintro e w' ⟨v, rfl, ⟨A, c, rfl, hlc, hr⟩, hcur, hkp⟩
  rw [hgot] at hr hcur ⊢
  exact ⟨A, c, rfl, hr, hcur, hkp⟩
 have hfin : ∀ v w1 w2, Cur w1 ok g (l.drop got.length) (a + got.length) → Kp (· = g) w w1 → w2.ownsRow w1.heap.size 5 1 v (0 + got.length) ([] ++ bc got) → w1.grownBy w2 none →
   TakeP ok g l a n w (.returned (.tuple #[v, .int .i64 er])) w2 := by
  intro v w1 w2 h1 h2 h3 h4
  have hk : Kp (fun _ => False) w1 w2 := (Kp.refl _ _).grown h4 (fun k hk => by cases hk)
  rw [TakeP, hgot]
  simp only [List.nil_append] at h3
  refine ⟨v, rfl, BR.of_own h3 (fun k hk => ?_), h1.kp hk (fun _ _ h => h) (fun h => h), h2.trans (hk.mono (fun _ _ h => h.elim))⟩
  have := h3.lt k hk
  have := h2.size
  omega
 have HN := Lib.hid hnext
 have HF := Lib.hid hfin
 clear hnext hfin hgot
 obtain ⟨i0, hi0, hz0, hz1, hz2⟩ := info_parts u8_info
 go_enter Tryd.func109, Tryd.ntmps109
 go_wp2_with (first
  | (go_at_call 85; refine (HN.out).mono ?_; rintro e w1 ⟨A, c, rfl, hr, hcur, hkp⟩)
  | (at_builtin; refine wpList_append_any _ rfl (.const (.slice none 0 0)) (.tmp 14) _ rfl w1.heap.size 5 i0 _ 1 1 Tryd.underlying25 hi0 hz0 hz1 hz2 rfl (by omega) (.slice none 0 0) 0 [] rfl ⟨by simp, .inl ⟨rfl, rfl⟩⟩ ok A got.length c (bc got) rfl hr (bc_one _) (by simp only [maxLen]; omega) (by omega) (Nat.le_refl _) ?_; intro v2 w2 hown hgrow hat))
 go_ret2
 exact HF.out _ _ _ hcur hkp hown hgrow

/-! ### A cursor of its own over the next bytes. -/
/-- The error alone, and nothing turned but for what is read. -/
def SubE (ok : Nat → Prop) (g : Nat) (l : List UInt8) (a n : Int) (w : World) (e : Ending) (w' : World) : Prop :=
 e = .returned (.tuple #[.pointer none, .int .i64 (nx l n).2]) ∧ Cur w' ok g l a ∧ Kp (· = g) w w'
def SubP (ok : Nat → Prop) (g : Nat) (l : List UInt8) (a : Int) (n : Nat) (w : World) (e : Ending) (w' : World) : Prop :=
 ∃ g', e = .returned (.tuple #[.pointer (some ⟨g', 0, none⟩), .int .i64 0]) ∧ w.heap.size ≤ g' ∧ Cur w' ok g' (l.take n) a ∧ Cur w' ok g (l.drop n) (a + n) ∧ Kp (· = g) w w'

theorem sub_err (ok : Nat → Prop) (g : Nat) (l : List UInt8) (a : Int) (n : Int) (w : World) (hc : Cur w ok g l a) (hok : ¬ ok g) (hl : l.length ≤ 140737488351232) (ha : 0 ≤ a) (hal : a + l.length ≤ 9223372036854775807)
  (hn : n < 0 ∨ (l.length : Int) < n) :
  Calls Tryd.prog 83 #[.pointer (some ⟨g, 0, none⟩), .int .i64 n] w (SubE ok g l a n w) := by
 obtain ⟨er, hgot, hne⟩ : ∃ er, nx l n = ([], er) ∧ (er != 0) = true := by
  rcases hn with h | h
  ·exact ⟨2, nx_neg h, rfl⟩
  ·exact ⟨4, nx_short (by omega) h, rfl⟩
 have hnext : Calls Tryd.prog 85 #[.pointer (some ⟨g, 0, none⟩), .int .i64 n] w fun e w' => ∃ A c, e = .returned (.tuple #[.slice A 0 c, .int .i64 er]) ∧
   Cur w' ok g l a ∧ Kp (· = g) w w' := by
  refine (next_any ok g l a n w hc hok hl ha hal).mono ?_
  rintro e w' ⟨v, rfl, ⟨A, c, rfl, hlc, hr⟩, hcur, hkp⟩
  rw [hgot] at hr hcur ⊢
  exact ⟨A, c, rfl, by simpa using hcur, hkp⟩
 have hfin : ∀ w1, Cur w1 ok g l a → Kp (· = g) w w1 → SubE ok g l a n w (.returned (.tuple #[.pointer none, .int .i64 er])) w1 := by
  intro w1 h1 h2
  rw [SubE, hgot]
  exact ⟨rfl, h1, h2⟩
 have HN := Lib.hid hnext
 have HF := Lib.hid hfin
 clear hnext hfin hgot hn
 go_enter Tryd.func83, Tryd.ntmps83
 go_wp2_with (first
  | (go_at_call 85; refine (HN.out).mono ?_; rintro e w1 ⟨A, c, rfl, hcur, hkp⟩)
  | (go_at_call 43; refine (at_any ok g l a _ hc).mono ?_; rintro e w' ⟨rfl, rfl⟩))
 go_ret2
 exact HF.out _ hcur hkp

theorem sub_ok (ok : Nat → Prop) (g : Nat) (l : List UInt8) (a : Int) (n : Nat) (w : World) (hc : Cur w ok g l a) (hok : ¬ ok g) (hl : l.length ≤ 140737488351232) (ha : 0 ≤ a) (hal : a + l.length ≤ 9223372036854775807)
  (hn : n ≤ l.length) :
  Calls Tryd.prog 83 #[.pointer (some ⟨g, 0, none⟩), .int .i64 n] w (SubP ok g l a n w) := by
 have hlt := hc.lt
 have hnext : Calls Tryd.prog 85 #[.pointer (some ⟨g, 0, none⟩), .int .i64 n] w fun e w' => ∃ A c, e = .returned (.tuple #[.slice A n c, .int .i64 0]) ∧
   BR w' ok (.slice A n c) (l.take n) ∧ Cur w' ok g (l.drop n) (a + n) ∧ Kp (· = g) w w' := by
  refine (next_any ok g l a n w hc hok hl ha hal).mono ?_
  rintro e w' ⟨v, rfl, hv, hcur, hkp⟩
  rw [nx_ok (by omega) (by omega)] at hv hcur ⊢
  have hlen : (l.take (n : Int).toNat).length = n := by simp; omega
  simp only [hlen] at hcur
  obtain ⟨A, c, rfl, h⟩ := id hv
  rw [hlen] at hv ⊢
  exact ⟨A, c, rfl, hv, hcur, hkp⟩
 have hfin : ∀ A c w1, BR w1 ok (.slice A n c) (l.take n) → Cur w1 ok g (l.drop n) (a + n) → Kp (· = g) w w1 →
   SubP ok g l a n w (.returned (.tuple #[.pointer (some ⟨w1.heap.size, 0, none⟩), .int .i64 0])) (w1.alloc (.cells #[.slice A n c, .int .i64 a] 96)) := by
  intro A c w1 h0 h1 h2
  have hk : Kp (fun _ => False) w1 (w1.alloc (.cells #[.slice A n c, .int .i64 a] 96)) := (Kp.refl _ _).alloc _
  exact ⟨_, rfl, h2.size, ⟨_, h0.kp hk (fun _ _ h => h), Blk.new _ _ _⟩, h1.kp hk (fun _ _ h => h) (fun h => h), h2.alloc _⟩
 have HN := Lib.hid hnext
 have HF := Lib.hid hfin
 clear hnext hfin hn
 go_enter Tryd.func83, Tryd.ntmps83
 go_wp2_with (first
  | (go_at_call 85; refine (HN.out).mono ?_; rintro e w1 ⟨A, c, rfl, hb, hcur, hkp⟩)
  | (go_at_call 43; refine (at_any ok g l a _ hc).mono ?_; rintro e w' ⟨rfl, rfl⟩))
 go_ret2
 exact HF.out _ _ _ hb hcur hkp

end Go.Proofs.YtdhnfccgojgehaaDoor

namespace Go.Proofs.YtdhnfccgojgehaaDoor
open Go.RowKit

/-- What a reading tells: where it is wrong (so many bytes on), why; or the value, and the bytes that are left; its steps. -/
inductive RdT where
 | bad (at_ : Int) (e : Int) (q : Nat)
 | got (x : Vt) (rest : List UInt8) (q : Nat)
def RdT.steps : RdT → Nat
 | .bad _ _ q => q
 | .got _ _ q => q
/-- A length: where it is wrong, why; how many. -/
def lenE (h : FH) (b : List UInt8) : Int × Int × Nat :=
 if (b.length : Int) < h.s then (b.length, 4, 0)
 else if (be (b.take h.s.toNat) : Int) < h.lo ∨ h.hi < (be (b.take h.s.toNat) : Int) ∨ Int.tmod (be (b.take h.s.toNat) : Int) h.st ≠ 0 then (0, 5, 0)
 else if b.length < h.s.toNat + be (b.take h.s.toNat) then (b.length, 4, 0)
 else (0, 0, be (b.take h.s.toNat))
/-- Things, as long as there are bytes. -/
def iterR (f : List UInt8 → RdT) : Nat → List UInt8 → Nat → Nat → List Vt → RdT
 | 0, b, _, q, acc => .got (.mk ⟨0, []⟩ acc) b q
 | n + 1, b, d, q, acc =>
  if b.length = 0 then .got (.mk ⟨0, []⟩ acc) b q
  else match f b with
   | .bad a e s => .bad (d + a) e (q + s)
   | .got x r s => iterR f n r (d + (b.length - r.length)) (q + s) (acc ++ [x])
mutual
/-- Reads one. -/
def readR : Fm → List UInt8 → RdT
 | .mk h P, b =>
  if h.k = 0 then (if (b.length : Int) < h.s then .bad b.length 4 1 else .got (.mk ⟨(be (b.take h.s.toNat) : Nat), []⟩ []) (b.drop h.s.toNat) 1)
  else if h.k = 1 then (if (lenE h b).2.1 ≠ 0 then .bad (lenE h b).1 (lenE h b).2.1 1 else .got (.mk ⟨0, (b.drop h.s.toNat).take (lenE h b).2.2⟩ []) (b.drop (h.s.toNat + (lenE h b).2.2)) 1)
  else if h.k = 4 then (if (b.length : Int) < h.lo then .bad b.length 4 1 else if h.hi < (b.length : Int) then .bad h.hi 6 1 else .got (.mk ⟨0, b⟩ []) [] 1)
  else if h.k = 5 then (if (b.length : Int) < h.lo then .bad b.length 4 1 else .got (.mk ⟨0, b.take h.lo.toNat⟩ []) (b.drop h.lo.toNat) 1)
  else if h.k = 3 then readRow P b 0 1 []
  else if (lenE h b).2.1 ≠ 0 then .bad (lenE h b).1 (lenE h b).2.1 1
  else match iterR (readHd P) (lenE h b).2.2 ((b.drop h.s.toNat).take (lenE h b).2.2) h.s.toNat 1 [] with
   | .bad a e q => .bad a e q
   | .got x _ q => .got x (b.drop (h.s.toNat + (lenE h b).2.2)) q
def readRow : List Fm → List UInt8 → Nat → Nat → List Vt → RdT
 | [], b, _, q, acc => .got (.mk ⟨0, []⟩ acc) b q
 | g :: P, b, d, q, acc => match readR g b with
  | .bad a e s => .bad (d + a) e (q + s)
  | .got x r s => readRow P r (d + (b.length - r.length)) (q + s) (acc ++ [x])
def readHd : List Fm → List UInt8 → RdT
 | [], _ => .bad 0 0 0
 | g :: _, b => readR g b
end
theorem readR_mk (h : FH) (P : List Fm) (b : List UInt8) : readR (.mk h P) b =
  if h.k = 0 then (if (b.length : Int) < h.s then .bad b.length 4 1 else .got (.mk ⟨(be (b.take h.s.toNat) : Nat), []⟩ []) (b.drop h.s.toNat) 1)
  else if h.k = 1 then (if (lenE h b).2.1 ≠ 0 then .bad (lenE h b).1 (lenE h b).2.1 1 else .got (.mk ⟨0, (b.drop h.s.toNat).take (lenE h b).2.2⟩ []) (b.drop (h.s.toNat + (lenE h b).2.2)) 1)
  else if h.k = 4 then (if (b.length : Int) < h.lo then .bad b.length 4 1 else if h.hi < (b.length : Int) then .bad h.hi 6 1 else .got (.mk ⟨0, b⟩ []) [] 1)
  else if h.k = 5 then (if (b.length : Int) < h.lo then .bad b.length 4 1 else .got (.mk ⟨0, b.take h.lo.toNat⟩ []) (b.drop h.lo.toNat) 1)
  else if h.k = 3 then readRow P b 0 1 []
  else if (lenE h b).2.1 ≠ 0 then .bad (lenE h b).1 (lenE h b).2.1 1
  else match iterR (readHd P) (lenE h b).2.2 ((b.drop h.s.toNat).take (lenE h b).2.2) h.s.toNat 1 [] with
   | .bad a e q => .bad a e q
   | .got x _ q => .got x (b.drop (h.s.toNat + (lenE h b).2.2)) q := by rw [readR]
theorem readRow_drop {P : List Fm} {i : Nat} (hi : i < P.length) (b : List UInt8) (d q : Nat) (acc : List Vt) : readRow (P.drop i) b d q acc = match readR P[i] b with
  | .bad a e s => .bad (d + a) e (q + s)
  | .got x r s => readRow (P.drop (i + 1)) r (d + (b.length - r.length)) (q + s) (acc ++ [x]) := by
 rw [List.drop_eq_getElem_cons hi, readRow]
theorem readRow_end {P : List Fm} {i : Nat} (hi : P.length ≤ i) (b : List UInt8) (d q : Nat) (acc : List Vt) : readRow (P.drop i) b d q acc = .got (.mk ⟨0, []⟩ acc) b q := by
 rw [List.drop_of_length_le hi, readRow]
theorem readHd_one (g : Fm) (t : List Fm) : readHd (g :: t) = readR g := by
 funext b
 rw [readHd]
mutual
/-- The bytes of a value. -/
def writeR : Fm → Vt → List UInt8
 | f, .mk a l =>
  if f.a.k = 0 then beB f.a.s.toNat a.n.toNat
  else if f.a.k = 1 then beB f.a.s.toNat a.b.length ++ a.b
  else if f.a.k = 4 ∨ f.a.k = 5 then a.b
  else if f.a.k = 2 then beB f.a.s.toNat (writeL f 0 l).length ++ writeL f 0 l
  else writeL f 0 l
def writeL : Fm → Nat → List Vt → List UInt8
 | _, _, [] => []
 | f, j, x :: t => writeR (f.l.getD (j % f.l.length) nilF) x ++ writeL f (j + 1) t
end
theorem writeR_mk (h : FH) (P : List Fm) (a : VH) (l : List Vt) : writeR (.mk h P) (.mk a l) =
  if h.k = 0 then beB h.s.toNat a.n.toNat
  else if h.k = 1 then beB h.s.toNat a.b.length ++ a.b
  else if h.k = 4 ∨ h.k = 5 then a.b
  else if h.k = 2 then beB h.s.toNat (writeL (.mk h P) 0 l).length ++ writeL (.mk h P) 0 l
  else writeL (.mk h P) 0 l := by rw [writeR]; rfl
theorem lenE_ok {h : FH} {b : List UInt8} (h1 : (lenE h b).2.1 = 0) : h.s ≤ b.length ∧ h.lo ≤ ((lenE h b).2.2 : Int) ∧ ((lenE h b).2.2 : Int) ≤ h.hi ∧ Int.tmod ((lenE h b).2.2 : Int) h.st = 0 ∧ h.s.toNat + (lenE h b).2.2 ≤ b.length ∧ (lenE h b).2.2 = be (b.take h.s.toNat) ∧ (lenE h b).1 = 0 := by
 unfold lenE at h1 ⊢
 split at h1
 ·simp at h1
 ·rename_i g1
  split at h1
  ·simp at h1
  ·rename_i g2
   split at h1
   ·simp at h1
   ·rename_i g3
    rw [if_neg g1, if_neg g2, if_neg g3]
    simp only [not_or, Decidable.not_not] at g2
    exact ⟨by omega, by simp only; omega, by simp only; omega, g2.2.2, by simp only; omega, rfl, rfl⟩
theorem lenE_bad (h : FH) (b : List UInt8) : 0 ≤ (lenE h b).1 ∧ (lenE h b).1 ≤ b.length := by
 unfold lenE
 split
 ·exact ⟨by simp only; omega, by simp only; omega⟩
 ·split
  ·exact ⟨by simp only; omega, by simp only; omega⟩
  ·split
   ·exact ⟨by simp only; omega, by simp only; omega⟩
   ·exact ⟨by simp only; omega, by simp only; omega⟩
end Go.Proofs.YtdhnfccgojgehaaDoor

namespace Go.Proofs.YtdhnfccgojgehaaDoor
open Go.RowKit

mutual
/-- How many forms there are in one. -/
def szF : Fm → Nat
 | .mk a l => if a.k = 2 ∨ a.k = 3 then 1 + szL l else 1
def szL : List Fm → Nat
 | [] => 0
 | f :: t => szF f + szL t
end
theorem szF_mk (a : FH) (l : List Fm) : szF (.mk a l) = if a.k = 2 ∨ a.k = 3 then 1 + szL l else 1 := by rw [szF]
theorem szF_pos (f : Fm) : 1 ≤ szF f := by
 cases f
 rw [szF_mk]
 split <;> omega
theorem szL_mem {l : List Fm} {f : Fm} (h : f ∈ l) : szF f ≤ szL l := by
 induction l with
 | nil => simp at h
 | cons g t ih =>
  rw [szL]
  rcases List.mem_cons.1 h with rfl | h
  ·omega
  ·have := ih h
   omega
theorem szL_drop {l : List Fm} {i : Nat} (hi : i < l.length) : szL (l.drop i) = szF l[i] + szL (l.drop (i + 1)) := by
 rw [List.drop_eq_getElem_cons hi, szL]
theorem cnt_sz (f : Fm) : ∀ m, (cntR m f ≤ m → cntR m f = szF f) ∧ (szF f ≤ m → cntR m f = szF f) := by
 induction f using RT.induct with
 | h a l ih =>
 intro m
 rw [cntR, szF_mk]
 by_cases hk : a.k = 2 ∨ a.k = 3
 ·rw [if_pos hk, if_pos hk]
  have key : ∀ (t : List Fm), (∀ f ∈ t, f ∈ l) → ∀ n, (cntL m n t ≤ m → cntL m n t = n + szL t) ∧ (n + szL t ≤ m → cntL m n t = n + szL t) := by
   intro t
   induction t with
   | nil => intro _ n; rw [cntL, szL]; exact ⟨fun _ => by omega, fun _ => by omega⟩
   | cons f t ih2 =>
    intro hf n
    rw [cntL, szL]
    have h1 := ih f (hf f (by simp)) (m - n)
    have hp := szF_pos f
    constructor
    ·intro h
     by_cases hn : n ≤ m
     ·rw [if_pos hn] at h ⊢
      have h2 := (ih2 (fun g hg => hf g (by simp [hg])) (n + cntR (m - n) f)).1 h
      have h3 : n + cntR (m - n) f ≤ m := by
       by_cases h4 : n + cntR (m - n) f ≤ m
       ·exact h4
       ·omega
      have h5 := h1.1 (by omega)
      omega
     ·rw [if_neg hn] at h
      omega
    ·intro h
     rw [if_pos (by omega), h1.2 (by omega), (ih2 (fun g hg => hf g (by simp [hg])) (n + szF f)).2 (by omega)]
     omega
  exact key l (fun _ h => h) 1
 ·rw [if_neg hk, if_neg hk]
  exact ⟨fun _ => rfl, fun _ => rfl⟩
theorem span_sz (sel : FH → Int) (hs : sel = FH.lo ∨ sel = FH.hi) (f : Fm) (h : szF f ≤ 100000) (hc : checkR f = 0) : 0 ≤ spanR sel f ∧ spanR sel f ≤ 16777218 * (szF f : Nat) := by
 have e := (cnt_sz f 100000).2 h
 have := span_bd sel hs f 100000 (by omega) (by omega) hc
 rw [e] at this
 exact this
def gB (c : Nat) : Nat := max 1 (2 * c - 1)
theorem gB_mono {c c' : Nat} (h : c ≤ c') : gB c ≤ gB c' := by unfold gB; omega
theorem own_sz {h : FH} {P : List Fm} (hc : checkR (.mk h P) = 0) (k0 : h.k = 0) : szB h.s = true := by
 rw [checkR_mk] at hc
 have h0 : ownN h.k h.s h.lo h.hi h.st P.length = 0 := Decidable.byContradiction fun hn => by
  rw [if_pos hn] at hc
  exact hn hc
 unfold ownN at h0
 rw [if_pos k0] at h0
 split at h0
 ·omega
 ·unfold szB
  simp only [Bool.or_eq_true, decide_eq_true_eq]
  omega
theorem badF_at {k : Int} {n : Nat} {l : List Fm} : ∀ {i : Nat}, badF k n i l = false → ∀ j (hj : j < l.length), badI k n (i + j) l[j] = false := by
 induction l with
 | nil => intro i _ j hj; simp at hj
 | cons f t ih =>
  intro i h j hj
  rw [badF, Bool.or_eq_false_iff] at h
  cases j with
  | zero => simpa using h.1
  | succ j =>
   have := ih h.2 j (by simpa using hj)
   rw [show i + 1 + j = i + (j + 1) by omega] at this
   simpa using this
theorem openL_shut {P : List Fm} (h : openL P = false) (hl : 0 < P.length) : openR (P[P.length - 1]'(by omega)) = false := by
 induction P with
 | nil => simp at hl
 | cons f t ih =>
  cases t with
  | nil => rw [openL] at h; simpa using h
  | cons g u =>
   rw [openL] at h
   have := ih h (by simp)
   simpa using this
/-- The parts of a right row that is not open: none of them is. -/
theorem row_shut {h : FH} {P : List Fm} (hc : checkR (.mk h P) = 0) (k3 : h.k = 3) : (∀ j (hj : j < P.length), j + 1 < P.length → openR P[j] = false) ∧ (openR (.mk h P) = false → ∀ j (hj : j < P.length), openR P[j] = false) := by
 obtain ⟨_, _, _, hch⟩ := check_ok hc
 have hb := (hch (.inr k3)).2
 have h1 : ∀ j (hj : j < P.length), j + 1 < P.length → openR P[j] = false := by
  intro j hj hj2
  have := badF_at hb j hj
  unfold badI at this
  simp only [Nat.zero_add, Bool.or_eq_false_iff, Bool.and_eq_false_imp, decide_eq_false_iff_not, decide_eq_true_eq] at this
  cases ho : openR P[j]
  ·rfl
  ·have := this.1 ho
   omega
 refine ⟨h1, fun ho j hj => ?_⟩
 rw [openR_mk, if_pos k3] at ho
 by_cases hj2 : j + 1 < P.length
 ·exact h1 j hj hj2
 ·have := openL_shut ho (by omega)
  simpa [show P.length - 1 = j by omega] using this
/-- The item of a right list. -/
theorem list_item {h : FH} {P : List Fm} (hc : checkR (.mk h P) = 0) (k2 : h.k = 2) : ∃ g, P = [g] ∧ checkR g = 0 ∧ openR g = false ∧ leastR g ≠ 0 := by
 obtain ⟨_, h1, _, hch⟩ := check_ok hc
 obtain ⟨g, rfl⟩ := List.length_eq_one_iff.1 (h1 k2)
 obtain ⟨h2, h3⟩ := hch (.inl k2)
 have := badF_at h3 0 (by simp)
 unfold badI at this
 simp [k2] at this
 exact ⟨g, rfl, h2 g (by simp), this.1, this.2⟩
theorem lenE_app {h : FH} {b : List UInt8} (hs : 0 ≤ h.s) (h1 : (lenE h b).2.1 = 0) (r : List UInt8) : lenE h (b.take (h.s.toNat + (lenE h b).2.2) ++ r) = lenE h b := by
 obtain ⟨g1, g2, g3, g4, g5, g6, g7⟩ := lenE_ok h1
 have e0 : lenE h b = (0, 0, (lenE h b).2.2) := Prod.ext g7 (Prod.ext h1 rfl)
 generalize (lenE h b).2.2 = n at *
 have hlen : (b.take (h.s.toNat + n) ++ r).length = h.s.toNat + n + r.length := by
  rw [List.length_append, List.length_take]
  omega
 have htk : (b.take (h.s.toNat + n) ++ r).take h.s.toNat = b.take h.s.toNat := by
  rw [List.take_append_of_le_length (by rw [List.length_take]; omega), List.take_take]
  congr 1
  omega
 rw [e0]
 unfold lenE
 rw [htk, ← g6, hlen, if_neg (by omega), if_neg (by omega), if_neg (by omega)]
theorem mayR_is {n lo hi st : Int} (h1 : lo ≤ n) (h2 : n ≤ hi) (h3 : Int.tmod n st = 0) : mayR n lo hi st = 0 := by
 unfold mayR
 rw [if_neg (by omega), if_neg (by omega), if_pos h3]
theorem tmod_one (n : Int) : Int.tmod n 1 = 0 := by simp
theorem alone0 (n : Int) : aloneB 0 n 0 0 = true := by unfold aloneB; simp [fld]
theorem alone_b {k : Int} (hk : k = 1 ∨ k = 4 ∨ k = 5) (b : Nat) : aloneB k 0 b 0 = true := by
 unfold aloneB
 rcases hk with rfl | rfl | rfl <;> simp [fld]
theorem alone_l {k : Int} (hk : k = 2 ∨ k = 3) (l : Nat) : aloneB k 0 0 l = true := by
 unfold aloneB
 rcases hk with rfl | rfl <;> simp [fld]

/-- What is read of bytes is told by so many of them, fits, has as many, and is written as these. -/
def GotR (f : Fm) (b : List UInt8) (x : Vt) (rest : List UInt8) (q : Nat) : Prop :=
 ∃ u, b = u ++ rest ∧ fitR f x = ((u.length : Int), 0) ∧ leastR f ≤ u.length ∧ writeR f x = u ∧ wfV x = true ∧ 1 ≤ q ∧ q ≤ szF f * gB u.length ∧ (openR f = false → ∀ r', readR f (u ++ r') = .got x r' q)

theorem u64_be {l : List UInt8} (h : l.length ≤ 8) : u64B ((be l : Nat) : Int) := by
 have h1 := be_lt l
 have h2 : 256 ^ l.length ≤ 256 ^ 8 := Nat.pow_le_pow_right (by omega) h
 have h3 : (256 : Nat) ^ 8 = 18446744073709551616 := by decide
 unfold u64B
 omega
theorem read_got (f : Fm) : szF f ≤ 100000 → checkR f = 0 → ∀ b : List UInt8, b.length ≤ 140737488351232 → ∀ x rest q, readR f b = .got x rest q → GotR f b x rest q := by
 induction f using RT.induct with
 | h h P ih =>
 intro hsz hck b hb x rest q hrd
 obtain ⟨hown, hone, h32, hch⟩ := check_ok hck
 rw [readR_mk] at hrd
 by_cases k0 : h.k = 0
 ·rw [if_pos k0] at hrd
  split at hrd
  ·simp at hrd
  rename_i hlt
  injection hrd with e1 e2 e3
  subst e1 e2 e3
  have hs := hown.k0 k0
  have hlen : (b.take h.s.toNat).length = h.s.toNat := by rw [List.length_take]; omega
  refine ⟨b.take h.s.toNat, (List.take_append_drop _ _).symm, ?_, ?_, ?_, ?_, by omega, ?_, ?_⟩
  ·rw [fitR_mk]
   simp only [k0, List.length_nil, alone0, Bool.true_eq_false, if_false, if_true]
   rw [if_neg (fun hx => ?_), hlen]
   ·congr 1
    omega
   ·have h1 := be_lt (b.take h.s.toNat)
    rw [hlen] at h1
    have h2 : (256 : Nat) ^ h.s.toNat = 2 ^ (8 * h.s.toNat) := by rw [Nat.pow_mul]
    have h3 := hx.2
    rw [h2] at h1
    have h4 : ((2 : Int) ^ (8 * h.s.toNat)) = ((2 ^ (8 * h.s.toNat) : Nat) : Int) := by simp
    omega
  ·rw [leastR, spanR_mk, if_pos k0, hlen]
   omega
  ·rw [writeR_mk, if_pos k0]
   have := beB_be (b.take h.s.toNat)
   rw [hlen] at this
   simpa using this
  ·exact (wfV_mk _ _).2 ⟨u64_be (by rw [hlen]; omega), by simp, by simp, by simp⟩
  ·have := szF_pos (.mk h P)
   have h2 : 1 ≤ gB (b.take h.s.toNat).length := by unfold gB; omega
   exact Nat.le_trans (by omega) (Nat.mul_le_mul this h2)
  ·intro _ r'
   rw [readR_mk, if_pos k0, if_neg (by rw [List.length_append, hlen]; omega), List.take_append_of_le_length (by omega), List.take_of_length_le (l := b.take h.s.toNat) (by omega), List.drop_append_of_le_length (by omega), List.drop_of_length_le (l := b.take h.s.toNat) (by omega)]
   rfl
 rw [if_neg k0] at hrd
 by_cases k1 : h.k = 1
 ·rw [if_pos k1] at hrd
  split at hrd
  ·simp at hrd
  rename_i hz
  injection hrd with e1 e2 e3
  subst e1 e2 e3
  have hz := Decidable.not_not.1 hz
  obtain ⟨g1, g2, g3, g4, g5, g6, g7⟩ := lenE_ok hz
  have happ := fun r => lenE_app (h := h) (b := b) (by have := hown.k12 (.inl k1); omega) hz r
  have hs := hown.k12 (.inl k1)
  generalize hn : (lenE h b).2.2 = n at *
  have hlen : (b.take (h.s.toNat + n)).length = h.s.toNat + n := by rw [List.length_take]; omega
  have hlen2 : ((b.drop h.s.toNat).take n).length = n := by rw [List.length_take, List.length_drop]; omega
  have hu : b.take (h.s.toNat + n) = b.take h.s.toNat ++ (b.drop h.s.toNat).take n := by rw [List.take_add]
  refine ⟨b.take (h.s.toNat + n), (List.take_append_drop _ _).symm, ?_, ?_, ?_, ?_, by omega, ?_, ?_⟩
  ·rw [fitR_mk]
   simp only [List.length_nil, alone_b (.inl k1), Bool.true_eq_false, if_false, if_neg k0, if_pos k1, hlen2, hlen, mayR_is g2 g3 g4]
   rw [w64 (by omega) (by omega)]
   congr 1
   omega
  ·rw [leastR, spanR_mk, if_neg k0, if_pos (.inl k1), hlen, w64 (by omega) (by omega)]
   omega
  ·rw [writeR_mk, if_neg k0, if_pos k1, hu]
   simp only [hlen2]
   have := beB_be (b.take h.s.toNat)
   rw [List.length_take, Nat.min_eq_left (by omega), ← g6] at this
   rw [this]
  ·exact (wfV_mk _ _).2 ⟨by unfold u64B; simp only; omega, by simp only [hlen2]; omega, by simp, by simp⟩
  ·have := szF_pos (.mk h P)
   have h2 : 1 ≤ gB (b.take (h.s.toNat + n)).length := by unfold gB; omega
   exact Nat.le_trans (by omega) (Nat.mul_le_mul this h2)
  ·intro _ r'
   rw [readR_mk, if_neg k0, if_pos k1, happ r', if_neg (by simp [hz]), hn]
   congr 1
   ·congr 2
    rw [List.drop_append_of_le_length (by omega), List.take_append_of_le_length (by rw [List.length_drop]; omega), hu, List.drop_append_of_le_length (by rw [List.length_take]; omega), List.drop_of_length_le (l := b.take h.s.toNat) (by rw [List.length_take]; omega), List.nil_append, List.take_take, Nat.min_self]
   ·rw [List.drop_append_of_le_length (by omega), List.drop_of_length_le (by omega)]
    rfl
 rw [if_neg k1] at hrd
 by_cases k4 : h.k = 4
 ·rw [if_pos k4] at hrd
  split at hrd
  ·simp at hrd
  split at hrd
  ·simp at hrd
  injection hrd with e1 e2 e3
  subst e1 e2 e3
  have hs := hown.k4 k4
  refine ⟨b, by simp, ?_, ?_, ?_, ?_, by omega, ?_, ?_⟩
  ·rw [fitR_mk]
   simp only [List.length_nil, alone_b (.inr (.inl k4)), Bool.true_eq_false, if_false, if_neg k0, if_neg k1, if_pos k4]
   rw [mayR_is (by omega) (by omega) (tmod_one _)]
  ·rw [leastR, spanR_mk, if_neg k0, if_neg (by omega), if_pos k4]
   omega
  ·rw [writeR_mk, if_neg k0, if_neg k1, if_pos (.inl k4)]
  ·exact (wfV_mk _ _).2 ⟨by unfold u64B; simp only; omega, by simp only; omega, by simp, by simp⟩
  ·have := szF_pos (.mk h P)
   have h2 : 1 ≤ gB b.length := by unfold gB; omega
   exact Nat.le_trans (by omega) (Nat.mul_le_mul this h2)
  ·intro ho
   rw [openR_mk, if_neg (by omega)] at ho
   simp [k4] at ho
 rw [if_neg k4] at hrd
 by_cases k5 : h.k = 5
 ·rw [if_pos k5] at hrd
  split at hrd
  ·simp at hrd
  rename_i hlt
  injection hrd with e1 e2 e3
  subst e1 e2 e3
  have hs := hown.k5 k5
  have hlen : (b.take h.lo.toNat).length = h.lo.toNat := by rw [List.length_take]; omega
  refine ⟨b.take h.lo.toNat, (List.take_append_drop _ _).symm, ?_, ?_, ?_, ?_, by omega, ?_, ?_⟩
  ·rw [fitR_mk]
   simp only [List.length_nil, alone_b (.inr (.inr k5)), Bool.true_eq_false, if_false, if_neg k0, if_neg k1, if_neg k4, if_pos k5, hlen]
   rw [mayR_is (by omega) (by omega) (tmod_one _)]
   congr 1
   omega
  ·rw [leastR, spanR_mk, if_neg k0, if_neg (by omega), if_neg k4, if_pos k5, hlen]
   omega
  ·rw [writeR_mk, if_neg k0, if_neg k1, if_pos (.inr k5)]
  ·exact (wfV_mk _ _).2 ⟨by unfold u64B; simp only; omega, by simp only [hlen]; omega, by simp, by simp⟩
  ·have := szF_pos (.mk h P)
   have h2 : 1 ≤ gB (b.take h.lo.toNat).length := by unfold gB; omega
   exact Nat.le_trans (by omega) (Nat.mul_le_mul this h2)
  ·intro _ r'
   rw [readR_mk, if_neg k0, if_neg k1, if_neg k4, if_pos k5, if_neg (by rw [List.length_append, hlen]; omega), List.take_append_of_le_length (by omega), List.take_of_length_le (l := b.take h.lo.toNat) (by omega), List.drop_append_of_le_length (by omega), List.drop_of_length_le (l := b.take h.lo.toNat) (by omega)]
   rfl
 rw [if_neg k5] at hrd
 have hk23 : h.k = 2 ∨ h.k = 3 := by have := hown.k; omega
 have hPc : ∀ y ∈ P, checkR y = 0 := (hch hk23).1
 rw [szF_mk, if_pos hk23] at hsz
 have hPz : ∀ y ∈ P, szF y ≤ 100000 := fun y hy => by have := szL_mem hy; omega
 by_cases k3 : h.k = 3
 ·rw [if_pos k3] at hrd
  have hshut := row_shut hck k3
  have key : ∀ (d i : Nat) (b : List UInt8) (off q0 : Nat) (acc : List Vt), P.length - i = d → i ≤ P.length → b.length ≤ 140737488351232 → readRow (P.drop i) b off q0 acc = .got x rest q →
    ∃ ys u, x = .mk ⟨0, []⟩ (acc ++ ys) ∧ ys.length = P.length - i ∧ b = u ++ rest ∧ (∀ c0 : Nat, c0 + b.length ≤ 140737488351232 → fitL (.mk h P) c0 i ys = (((c0 + u.length : Nat) : Int), 0) ∧ spanL FH.lo c0 (P.drop i) ≤ ((c0 + u.length : Nat) : Int)) ∧
     writeL (.mk h P) i ys = u ∧ (∀ y ∈ ys, wfV y = true) ∧ q0 ≤ q ∧ q ≤ q0 + szL (P.drop i) * gB u.length ∧ ((∀ j (hj : j < P.length), openR P[j] = false) → ∀ r', readRow (P.drop i) (u ++ r') off q0 acc = .got x r' q) := by
   intro d
   induction d with
   | zero =>
    intro i b off q0 acc hd hi hbl hr
    rw [readRow_end (by omega)] at hr
    injection hr with e1 e2 e3
    subst e1 e2 e3
    refine ⟨[], [], by simp, by simp; omega, by simp, fun c0 _ => ⟨by rw [fitL_nil, if_pos k3]; simp, ?_⟩, by rw [writeL], by simp, by omega, by omega, fun _ r' => by rw [readRow_end (by omega)]; simp⟩
    rw [List.drop_of_length_le (by omega), spanL]
    simp
   | succ d ihd =>
    intro i b off q0 acc hd hi hbl hr
    have hlt : i < P.length := by omega
    have hmem := List.getElem_mem hlt
    rw [readRow_drop hlt] at hr
    cases hx : readR P[i] b with
    | bad a e s => rw [hx] at hr; simp at hr
    | got y r s =>
     rw [hx] at hr
     simp only at hr
     obtain ⟨u1, hb1, f1, l1, w1, v1, q1, q2, o1⟩ := ih P[i] hmem (hPz _ hmem) (hPc _ hmem) b hbl y r s hx
     have hbr : b.length = u1.length + r.length := by rw [hb1, List.length_append]
     obtain ⟨ys, u2, hx2, hyl, hb2, hf2, hw2, hv2, hq3, hq4, ho2⟩ := ihd (i + 1) r _ _ _ (by omega) (by omega) (by omega) hr
     have hrl : r.length = u2.length + rest.length := by rw [hb2, List.length_append]
     have hsp := span_sz FH.lo (.inl rfl) P[i] (hPz _ hmem) (hPc _ hmem)
     have hl1 : spanR FH.lo P[i] ≤ u1.length := l1
     refine ⟨y :: ys, u1 ++ u2, by rw [hx2, List.append_assoc]; rfl, by rw [List.length_cons, hyl]; omega, by rw [hb1, hb2, List.append_assoc], fun c0 hc0 => ?_, ?_, ?_, by omega, ?_, ?_⟩
     ·have hjm : i % P.length = i := Nat.mod_eq_of_lt hlt
      have hg : P.getD (i % P.length) nilF = P[i] := by rw [hjm]; simp [hlt]
      obtain ⟨h1, h2⟩ := hf2 (c0 + u1.length) (by omega)
      constructor
      ·rw [fitL]
       simp only [RT.l, hg, f1, if_true]
       rw [w64 (by omega) (by omega), show (c0 : Int) + (u1.length : Int) = ((c0 + u1.length : Nat) : Int) by omega, h1, List.length_append]
       congr 2
       omega
      ·rw [List.drop_eq_getElem_cons hlt, spanL]
       rw [w64 (by omega) (by omega)]
       have hmono : ∀ (t : List Fm) (a c : Int), (∀ y ∈ t, szF y ≤ 100000 ∧ checkR y = 0) → a ≤ c → 0 ≤ a → c + 1677721800000 * t.length ≤ 9000000000000000000 → spanL FH.lo a t ≤ spanL FH.lo c t := by
        intro t
        induction t with
        | nil => intro a c _ hac _ _; rw [spanL, spanL]; exact hac
        | cons g t iht =>
         intro a c ht hac h0 hc
         have hg := span_sz FH.lo (.inl rfl) g (ht g (by simp)).1 (ht g (by simp)).2
         have hg2 := (ht g (by simp)).1
         rw [List.length_cons] at hc
         rw [spanL, spanL, w64 (by omega) (by omega), w64 (by omega) (by omega)]
         exact iht _ _ (fun y hy => ht y (by simp [hy])) (by omega) (by omega) (by omega)
       have h32' := h32 k3
       refine Int.le_trans (hmono (P.drop (i + 1)) ((c0 : Int) + spanR FH.lo P[i]) ((c0 + u1.length : Nat) : Int) (fun y hy => ⟨hPz y (List.mem_of_mem_drop hy), hPc y (List.mem_of_mem_drop hy)⟩) (by omega) (by omega) (by rw [List.length_drop]; omega)) ?_
       rw [List.length_append]
       omega
     ·rw [writeL]
      have hg : P.getD (i % P.length) nilF = P[i] := by rw [Nat.mod_eq_of_lt hlt]; simp [hlt]
      simp only [RT.l, hg, w1, hw2]
     ·intro z hz
      rcases List.mem_cons.1 hz with rfl | hz
      ·exact v1
      ·exact hv2 z hz
     ·rw [szL_drop hlt, Nat.add_mul]
      have e1 := Nat.mul_le_mul_left (szF P[i]) (gB_mono (show u1.length ≤ (u1 ++ u2).length by rw [List.length_append]; omega))
      have e2 := Nat.mul_le_mul_left (szL (P.drop (i + 1))) (gB_mono (show u2.length ≤ (u1 ++ u2).length by rw [List.length_append]; omega))
      omega
     ·intro hop r'
      rw [readRow_drop hlt, List.append_assoc, o1 (hop i hlt) (u2 ++ r')]
      simp only
      have := ho2 hop r'
      rw [show (u1 ++ (u2 ++ r')).length - (u2 ++ r').length = b.length - r.length by rw [List.length_append]; omega]
      exact this
  obtain ⟨ys, u, hx, hyl, hbu, hf, hw, hv, hq1, hq2, ho⟩ := key P.length 0 b 0 1 [] (by omega) (by omega) hb (by rw [List.drop_zero]; exact hrd)
  rw [List.nil_append] at hx
  subst hx
  obtain ⟨hf1, hf2⟩ := hf 0 (by omega)
  rw [List.drop_zero] at hf2 hq2
  refine ⟨u, hbu, ?_, ?_, ?_, ?_, by omega, ?_, ?_⟩
  ·rw [fitR_mk]
   simp only [List.length_nil, alone_l (.inr k3), Bool.true_eq_false, if_false, if_neg k0, if_neg k1, if_neg k4, if_neg k5]
   rw [if_neg (fun hh => hh.2 (by omega))]
   have := hf1
   rw [Nat.zero_add] at this
   exact this
  ·rw [leastR, spanR_mk, if_neg k0, if_neg (by omega), if_neg k4, if_neg k5]
   simpa using hf2
  ·rw [writeR_mk, if_neg k0, if_neg k1, if_neg (by omega), if_neg (by omega)]
   exact hw
  ·exact (wfV_mk _ _).2 ⟨by unfold u64B; simp only; omega, by simp, by have := h32 k3; omega, hv⟩
  ·rw [szF_mk, if_pos hk23, Nat.add_mul, Nat.one_mul]
   have h2 : 1 ≤ gB u.length := by unfold gB; omega
   omega
  ·intro hop r'
   rw [readR_mk, if_neg k0, if_neg k1, if_neg k4, if_neg k5, if_pos k3]
   have := ho (hshut.2 hop) r'
   rw [List.drop_zero] at this
   exact this
 rw [if_neg k3] at hrd
 have k2 : h.k = 2 := by omega
 split at hrd
 ·simp at hrd
 rename_i hz
 have hz := Decidable.not_not.1 hz
 obtain ⟨g1, g2, g3, g4, g5, g6, g7⟩ := lenE_ok hz
 have happ := fun r => lenE_app (h := h) (b := b) (by have := hown.k12 (.inr k2); omega) hz r
 have hs := hown.k12 (.inr k2)
 obtain ⟨g, rfl, hgc, hgo, hgl⟩ := list_item hck k2
 rw [readHd_one] at hrd
 have hgz : szF g ≤ 100000 := hPz g (by simp)
 generalize hn : (lenE h b).2.2 = n at *
 have hgd : ∀ j, [g].getD (j % [g].length) nilF = g := by intro j; simp [Nat.mod_one]
 have key : ∀ (fuel : Nat) (b : List UInt8) (off q0 : Nat) (acc : List Vt) (x : Vt) (rest : List UInt8) (q : Nat), b.length ≤ fuel → b.length ≤ 140737488351232 → iterR (readR g) fuel b off q0 acc = .got x rest q →
   ∃ ys, x = .mk ⟨0, []⟩ (acc ++ ys) ∧ rest = [] ∧ ys.length ≤ b.length ∧ (∀ (c0 j : Nat), c0 + b.length ≤ 140737488351232 → fitL (.mk h [g]) c0 j ys = (wrap64 (h.s + ((c0 + b.length : Nat) : Int)), mayR ((c0 + b.length : Nat) : Int) h.lo h.hi h.st) ∧ writeL (.mk h [g]) j ys = b) ∧ (∀ y ∈ ys, wfV y = true) ∧ q0 ≤ q ∧ q ≤ q0 + szF g * (2 * b.length) := by
  intro fuel
  induction fuel with
  | zero =>
   intro b off q0 acc x rest q hbf _ hr
   rw [iterR] at hr
   injection hr with e1 e2 e3
   subst e1 e2 e3
   have hb0 : b = [] := List.eq_nil_of_length_eq_zero (by omega)
   subst hb0
   refine ⟨[], by simp, rfl, by simp, fun c0 j _ => ⟨?_, by rw [writeL]⟩, by simp, by omega, by omega⟩
   rw [fitL_nil, if_neg k3]
   rfl
  | succ fuel ihf =>
   intro b off q0 acc x rest q hbf hbl hr
   rw [iterR] at hr
   by_cases hb0 : b.length = 0
   ·rw [if_pos hb0] at hr
    injection hr with e1 e2 e3
    subst e1 e2 e3
    have hb0 : b = [] := List.eq_nil_of_length_eq_zero (by omega)
    subst hb0
    refine ⟨[], by simp, rfl, by simp, fun c0 j _ => ⟨?_, by rw [writeL]⟩, by simp, by omega, by omega⟩
    rw [fitL_nil, if_neg k3]
    rfl
   rw [if_neg hb0] at hr
   cases hx : readR g b with
   | bad a e s => rw [hx] at hr; simp at hr
   | got y r s =>
    rw [hx] at hr
    simp only at hr
    obtain ⟨u1, hb1, f1, l1, w1, v1, q1, q2, o1⟩ := ih g (by simp) hgz hgc b hbl y r s hx
    have hbr : b.length = u1.length + r.length := by rw [hb1, List.length_append]
    have hsp := span_sz FH.lo (.inl rfl) g hgz hgc
    have hgl2 : leastR g = spanR FH.lo g := rfl
    have hu1 : 1 ≤ u1.length := by omega
    obtain ⟨ys, hx2, hr0, hyl, hf2, hv2, hq3, hq4⟩ := ihf r _ _ _ x rest q (by omega) (by omega) hr
    refine ⟨y :: ys, by rw [hx2, List.append_assoc]; rfl, hr0, by rw [List.length_cons]; omega, fun c0 j hc0 => ?_, ?_, by omega, ?_⟩
    ·obtain ⟨h1, h2⟩ := hf2 (c0 + u1.length) (j + 1) (by omega)
     constructor
     ·rw [fitL]
      simp only [RT.l, hgd, f1, if_true]
      rw [w64 (by omega) (by omega), show (c0 : Int) + (u1.length : Int) = ((c0 + u1.length : Nat) : Int) by omega, h1, show c0 + u1.length + r.length = c0 + b.length by omega]
     ·rw [writeL]
      simp only [RT.l, hgd, w1, h2]
      exact hb1.symm
    ·intro z hz
     rcases List.mem_cons.1 hz with rfl | hz
     ·exact v1
     ·exact hv2 z hz
    ·have e1 := Nat.mul_le_mul_left (szF g) (show gB u1.length ≤ 2 * u1.length by unfold gB; omega)
     have e2 : szF g * (2 * b.length) = szF g * (2 * u1.length) + szF g * (2 * r.length) := by rw [← Nat.mul_add]; congr 1; omega
     omega
 cases hit : iterR (readR g) n ((b.drop h.s.toNat).take n) h.s.toNat 1 [] with
 | bad a e s => rw [hit] at hrd; simp at hrd
 | got y r s =>
  rw [hit] at hrd
  simp only at hrd
  injection hrd with e1 e2 e3
  subst e1 e2 e3
  have hlen2 : ((b.drop h.s.toNat).take n).length = n := by rw [List.length_take, List.length_drop]; omega
  have hlen : (b.take (h.s.toNat + n)).length = h.s.toNat + n := by rw [List.length_take]; omega
  have hu : b.take (h.s.toNat + n) = b.take h.s.toNat ++ (b.drop h.s.toNat).take n := by rw [List.take_add]
  obtain ⟨ys, hx2, hr0, hyl, hf2, hv2, hq3, hq4⟩ := key n _ _ _ _ _ _ _ (by omega) (by omega) hit
  rw [List.nil_append] at hx2
  subst hx2
  obtain ⟨hf3, hw3⟩ := hf2 0 0 (by omega)
  rw [hlen2] at hf3 hyl hq4
  rw [Nat.zero_add] at hf3
  refine ⟨b.take (h.s.toNat + n), (List.take_append_drop _ _).symm, ?_, ?_, ?_, ?_, by omega, ?_, ?_⟩
  ·rw [fitR_mk]
   simp only [List.length_nil, alone_l (.inl k2), Bool.true_eq_false, if_false, if_neg k0, if_neg k1, if_neg k4, if_neg k5]
   rw [if_neg (fun hh => k3 hh.1)]
   have := hf3
   rw [mayR_is g2 g3 g4, w64 (by omega) (by omega)] at this
   rw [hlen]
   refine this.trans ?_
   congr 1
   omega
  ·rw [leastR, spanR_mk, if_neg k0, if_pos (.inr k2), hlen, w64 (by omega) (by omega)]
   omega
  ·rw [writeR_mk, if_neg k0, if_neg k1, if_neg (by omega), if_pos k2, hw3, hlen2, hu]
   have := beB_be (b.take h.s.toNat)
   rw [List.length_take, Nat.min_eq_left (by omega), ← g6] at this
   rw [this]
  ·exact (wfV_mk _ _).2 ⟨by unfold u64B; simp only; omega, by simp, by omega, hv2⟩
  ·rw [szF_mk, if_pos hk23, hlen]
   have h1 : 2 * n + 1 ≤ gB (h.s.toNat + n) := by unfold gB; omega
   have h2 := Nat.mul_le_mul_left (1 + szL [g]) h1
   rw [Nat.add_mul, Nat.one_mul] at h2
   have h3 : szL [g] = szF g := by rw [szL, szL]; omega
   have h4 : szF g * (2 * n) ≤ szF g * (2 * n + 1) := Nat.mul_le_mul_left _ (by omega)
   rw [h3] at h2 ⊢
   omega
  ·intro _ r'
   rw [readR_mk, if_neg k0, if_neg k1, if_neg k4, if_neg k5, if_neg k3, happ r', if_neg (by simp [hz]), hn, readHd_one]
   have e5 : (((b.take (h.s.toNat + n) ++ r').drop h.s.toNat).take n) = (b.drop h.s.toNat).take n := by
    rw [List.drop_append_of_le_length (by omega), List.take_append_of_le_length (by rw [List.length_drop]; omega), hu, List.drop_append_of_le_length (by rw [List.length_take]; omega), List.drop_of_length_le (l := b.take h.s.toNat) (by rw [List.length_take]; omega), List.nil_append, List.take_take, Nat.min_self]
   rw [e5, hit]
   simp only
   rw [List.drop_append_of_le_length (by omega), List.drop_of_length_le (by omega)]
   rfl
end Go.Proofs.YtdhnfccgojgehaaDoor

namespace Go.Proofs.YtdhnfccgojgehaaDoor
open Go.RowKit

/-- A reader at block g: its tally; where it is wrong, why. -/
def RdB (w : World) (g : Nat) (t : Value) (a e : Int) : Prop := Blk w g 76 #[t, .int .i64 a, .int .i64 e]
section
variable {w w' : World} {S : Nat → Prop} {g : Nat} {t : Value} {a e : Int}
theorem RdB.kp (h : RdB w g t a e) (hk : Kp S w w') (hg : ¬ S g) : RdB w' g t a e := Blk.kp h hk hg
end
set_option maxRecDepth 100000 in
theorem fail_any (g : Nat) (t : Value) (a0 e0 a e : Int) (w : World) (h : RdB w g t a0 e0) :
  Calls Tryd.prog 58 #[.pointer (some ⟨g, 0, none⟩), .int .i64 a, .int .i64 e] w fun x w' => (∃ v, x = .returned v) ∧ RdB w' g t a e ∧ Kp (· = g) w w' := by
 have hf1 := Blk.frozen h 1
 have hf2 := Blk.frozen h 2
 have HP := Lib.hid (show RdB ((w.setCell ⟨g, 1, none⟩ (.int .i64 a)).setCell ⟨g, 2, none⟩ (.int .i64 e)) g t a e ∧ Kp (· = g) w ((w.setCell ⟨g, 1, none⟩ (.int .i64 a)).setCell ⟨g, 2, none⟩ (.int .i64 e)) from
  ⟨(Blk.set_ h 1 _).set_ 2 _, ((Kp.refl (· = g) w).setCell (p := ⟨g, 1, none⟩) (.inl rfl) _).setCell (p := ⟨g, 2, none⟩) (.inl rfl) _⟩)
 have hc1 := Blk.cell h 1
 have hc2 := Blk.cell h 2
 simp at hc1 hc2
 clear h
 go_enter Tryd.func58, Tryd.ntmps58
 go_wp2_with fail
 exact bodyPost_end (results_none rfl _ _ _) rfl ⟨⟨_, rfl⟩, HP.out⟩

/-- A value of bytes alone, of a number alone. -/
theorem VtR.bytes {w : World} {ok : Nat → Prop} {v : Value} {l : List UInt8} (h : BR w ok v l) (hl : l.length ≤ 140737488355328) : VtR w ok (.agg #[.int .u64 0, v, .slice none 0 0]) (.mk ⟨0, l⟩ []) :=
 ⟨v, _, rfl, by unfold u64B; simp only [RT.a]; omega, h, hl, VsR.nil⟩
theorem VtR.num {w : World} {ok : Nat → Prop} {n : Int} (h : u64B n) : VtR w ok (.agg #[.int .u64 n, .slice none 0 0, .slice none 0 0]) (.mk ⟨n, []⟩ []) :=
 ⟨_, _, rfl, h, BR.nil, by simp [RT.a], VsR.nil⟩
theorem VtR.zero {w : World} {ok : Nat → Prop} : VtR w ok (.agg #[.int .u64 0, .slice none 0 0, .slice none 0 0]) (.mk ⟨0, []⟩ []) := VtR.num (by unfold u64B; omega)

/-- What a function that reads leaves. -/
def FormP (ok : Nat → Prop) (S : Nat → Prop) (rg cg : Nat) (t : Value) (b : List UInt8) (a : Int) (w : World) (R : RdT) (e : Ending) (w' : World) : Prop :=
 ∃ v x, e = .returned v ∧ VtR w' (w.heap.size ≤ ·) v x ∧ Kp S w w' ∧
  match R with
  | .bad o er _ => RdB w' rg t (a + o) er ∧ er ≠ 0
  | .got y r _ => x = y ∧ RdB w' rg t 0 0 ∧ Cur w' ok cg r (a + (b.length - r.length : Nat))
def S2 (rg cg : Nat) : Nat → Prop := fun i => i = rg ∨ i = cg

section
variable {S : Nat → Prop} {w : World}
/-- The three stores of a value into a result. -/
theorem Kp.put3 {a : World} (h : Kp S a w) {B : Nat} (hB : S B ∨ a.heap.size ≤ B) (u0 u1 u2 : Value) : Kp S a (((w.setCell ⟨B, 0, none⟩ u0).setCell ⟨B, 1, none⟩ u1).setCell ⟨B, 2, none⟩ u2) :=
 ((h.at_ B hB 0 u0).at_ B hB 1 u1).at_ B hB 2 u2
end

set_option maxRecDepth 100000 in
set_option maxHeartbeats 1600000 in
theorem bytes_any' (ok : Nat → Prop) (rg cg : Nat) (t : Value) (l : List UInt8) (a n : Int) (w : World) (got : List UInt8) (er : Int) (hn : nx l n = (got, er)) (hr : RdB w rg t 0 0) (hc : Cur w ok cg l a) (hoc : ¬ ok cg) (hrc : rg ≠ cg) (hokl : ∀ i, ok i → i < w.heap.size)
  (hl : l.length ≤ 140737488351232) (ha : 0 ≤ a) (hal : a + l.length ≤ 4611686018427387904) :
  Calls Tryd.prog 108 #[.pointer (some ⟨rg, 0, none⟩), .pointer (some ⟨cg, 0, none⟩), .int .i64 n] w fun e w' =>
   ∃ A c, e = .returned (.agg #[.int .u64 0, .slice A got.length c, .slice none 0 0]) ∧ VtR w' (w.heap.size ≤ ·) (.agg #[.int .u64 0, .slice A got.length c, .slice none 0 0]) (.mk ⟨0, got⟩ []) ∧ Kp (S2 rg cg) w w' ∧ (er = 0 → RdB w' rg t 0 0 ∧ Cur w' ok cg (l.drop got.length) (a + got.length)) ∧ (er ≠ 0 → RdB w' rg t (a + l.length) er) := by
 have hgl : got.length ≤ 140737488355328 := by
  have := nx_len l n
  rw [hn] at this
  simp only at this
  omega
 have hrlt : rg < w.heap.size := Blk.lt hr
 have hclt := hc.lt
 have ka : Kp (fun _ => False) w (w.alloc (.cells #[.int .u64 0, .slice none 0 0, .slice none 0 0] 31)) := (Kp.refl _ w).alloc _
 have HT := Lib.hid (take_any ok cg l a n _ (hc.kp ka (fun _ _ h => h) (fun h => h)) hoc hl ha (by omega))
 have HR0 := Lib.hid (hr.kp ka (fun h => h))
 have HB0 := Lib.hid (Blk.new w 31 #[.int .u64 0, .slice none 0 0, .slice none 0 0])
 have HKA := Lib.hid ka
 clear ka hr hc
 go_enter Tryd.func108, Tryd.ntmps108
 go_wp2_with fail
 refine HT.out.mono ?_
 rintro e w1 ⟨v1, rfl, hb1, hc1, hk1⟩
 rw [hn] at hb1 hc1 ⊢
 simp only at hb1 hc1 ⊢
 rw [World.size_alloc] at hb1
 have HB1 := Lib.hid (HB0.out.kp hk1 (by omega))
 have HR1 := Lib.hid (HR0.out.kp hk1 hrc)
 have HK1 := Lib.hid (show Kp (S2 rg cg) w w1 from (HKA.out.mono (fun _ _ h => h.elim)).then_ hk1 (fun i hi => .inl (.inr hi)))
 have HV1 := Lib.hid hb1
 have HC1 := Lib.hid hc1
 obtain ⟨A, c, rfl, _, _⟩ := id hb1
 clear hb1 hc1 hk1
 have FIN := Lib.hid (show ∀ (W : World), Kp (fun i => i = rg) w1 W → (er = 0 → W = w1) → (er ≠ 0 → RdB W rg t (a + l.length) er) →
   VtR (((W.setCell ⟨w.heap.size, 0, none⟩ (.int .u64 0)).setCell ⟨w.heap.size, 1, none⟩ (.slice A got.length c)).setCell ⟨w.heap.size, 2, none⟩ (.slice none 0 0)) (w.heap.size ≤ ·) (.agg #[.int .u64 0, .slice A got.length c, .slice none 0 0]) (.mk ⟨0, got⟩ []) ∧
   Kp (S2 rg cg) w (((W.setCell ⟨w.heap.size, 0, none⟩ (.int .u64 0)).setCell ⟨w.heap.size, 1, none⟩ (.slice A got.length c)).setCell ⟨w.heap.size, 2, none⟩ (.slice none 0 0)) ∧
   (er = 0 → RdB (((W.setCell ⟨w.heap.size, 0, none⟩ (.int .u64 0)).setCell ⟨w.heap.size, 1, none⟩ (.slice A got.length c)).setCell ⟨w.heap.size, 2, none⟩ (.slice none 0 0)) rg t 0 0 ∧ Cur (((W.setCell ⟨w.heap.size, 0, none⟩ (.int .u64 0)).setCell ⟨w.heap.size, 1, none⟩ (.slice A got.length c)).setCell ⟨w.heap.size, 2, none⟩ (.slice none 0 0)) ok cg (l.drop got.length) (a + got.length)) ∧
   (er ≠ 0 → RdB (((W.setCell ⟨w.heap.size, 0, none⟩ (.int .u64 0)).setCell ⟨w.heap.size, 1, none⟩ (.slice A got.length c)).setCell ⟨w.heap.size, 2, none⟩ (.slice none 0 0)) rg t (a + l.length) er) from by
  intro W hk h0 h1
  have hs := HK1.out.size
  have hq : Kp (· = w.heap.size) W (((W.setCell ⟨w.heap.size, 0, none⟩ (.int .u64 0)).setCell ⟨w.heap.size, 1, none⟩ (.slice A got.length c)).setCell ⟨w.heap.size, 2, none⟩ (.slice none 0 0)) := (Kp.refl (fun x => x = w.heap.size) W).put3 (B := w.heap.size) (.inl rfl) _ _ _
  refine ⟨?_, ?_, ?_, ?_⟩
  ·exact VtR.bytes (((HV1.out.kp hk (fun i hi he => by omega)).kp hq (fun i hi he => by omega)).mono (fun i hi => by omega)) hgl
  ·exact (HK1.out.then_ hk (fun i hi => .inl (.inl hi))).then_ hq (fun i hi => .inr (by omega))
  ·intro he
   have := h0 he
   subst this
   exact ⟨HR1.out.kp hq (by omega), HC1.out.kp hq (fun i hi he => by have := hokl i hi; omega) (by omega)⟩
  ·intro he
   exact (h1 he).kp hq (by omega))
 have hb1 := HB1.out
 by_cases he : er = 0
 ·have hne : (er != 0) = false := by simp [he]
  have HZ := Lib.hid he
  clear he
  have z0 := hb1.frozen 0
  have z1 := hb1.frozen 1
  have z2 := hb1.frozen 2
  have y0 := hb1.cell 0
  have y1 := hb1.cell 1
  have y2 := hb1.cell 2
  simp at y0 y1 y2
  clear hb1
  go_wp2_with fail
  obtain ⟨f1, f2, f3, f4⟩ := FIN.out w1 (Kp.refl _ _) (fun _ => rfl) (fun h => absurd HZ.out h)
  refine bodyPost_ret (v := .agg #[.int .u64 0, .slice A got.length c, .slice none 0 0]) (by simp [results, Tryd.results108, go_sem, y0, y1, y2]) rfl ⟨A, c, rfl, f1, f2, f3, f4⟩
 ·have hne : (er != 0) = true := by simpa using he
  have hge : got = [] := by
   rcases nx_cases l n with ⟨h1, _⟩ | ⟨_, _, h3⟩
   ·rw [hn] at h1
    exact absurd h1 he
   ·rw [hn] at h3
    exact h3
  have HE := Lib.hid (end_any ok cg (l.drop got.length) (a + got.length) w1 HC1.out (by omega) (by rw [List.length_drop]; omega))
  rw [show a + (got.length : Int) + ((l.drop got.length).length : Int) = a + (l.length : Int) by rw [hge]; simp] at HE
  have HF := Lib.hid (fail_any rg t 0 0 (a + l.length) er w1 HR1.out)
  clear hb1 hge
  go_wp2_with (first | (go_at_call 82; refine HE.out.mono ?_; rintro e w2 ⟨rfl, rfl⟩) | (go_at_call 58; refine HF.out.mono ?_; rintro e w2 ⟨⟨v2, rfl⟩, hr2, hk2⟩; have hb2 := HB1.out.kp hk2 (by omega); have z0 := hb2.frozen 0; have z1 := hb2.frozen 1; have z2 := hb2.frozen 2; have y0 := hb2.cell 0; have y1 := hb2.cell 1; have y2 := hb2.cell 2; simp at y0 y1 y2; clear hb2))
  obtain ⟨f1, f2, f3, f4⟩ := FIN.out w2 hk2 (fun h => absurd h he) (fun _ => hr2)
  refine bodyPost_ret (v := .agg #[.int .u64 0, .slice A got.length c, .slice none 0 0]) (by simp [results, Tryd.results108, go_sem, y0, y1, y2]) rfl ⟨A, c, rfl, f1, f2, f3, f4⟩

/-- The stores of a result, told. -/
theorem form_fin {ok okn S : Nat → Prop} {rg cg : Nat} {t : Value} {b : List UInt8} {a : Int} {w W : World} {R : RdT} {u0 u1 u2 : Value} {x : Vt} {B : Nat} (hK : Kp S w W) (hB : w.heap.size ≤ B) (hv : VtR W okn (.agg #[u0, u1, u2]) x)
  (hokn : ∀ i, okn i → w.heap.size ≤ i ∧ i ≠ B) (hrg : rg ≠ B) (hcg : cg ≠ B) (hok : ∀ i, ok i → i ≠ B)
  (hR : match R with
  | .bad o er _ => RdB W rg t (a + o) er ∧ er ≠ 0
  | .got y r _ => x = y ∧ RdB W rg t 0 0 ∧ Cur W ok cg r (a + (b.length - r.length : Nat))) :
  FormP ok S rg cg t b a w R (.returned (.agg #[u0, u1, u2])) (((W.setCell ⟨B, 0, none⟩ u0).setCell ⟨B, 1, none⟩ u1).setCell ⟨B, 2, none⟩ u2) := by
 have hq : Kp (fun i => i = B) W (((W.setCell ⟨B, 0, none⟩ u0).setCell ⟨B, 1, none⟩ u1).setCell ⟨B, 2, none⟩ u2) := (Kp.refl (fun i => i = B) W).put3 (B := B) (.inl rfl) _ _ _
 refine ⟨_, x, rfl, (hv.kp hq (fun i hi he => (hokn i hi).2 he)).mono (fun i hi => (hokn i hi).1), hK.then_ hq (fun i hi => .inr (by omega)), ?_⟩
 cases R with
 | bad o er q => exact ⟨hR.1.kp hq hrg, hR.2⟩
 | got y r q => exact ⟨hR.1, hR.2.1.kp hq hrg, hR.2.2.kp hq (fun i hi he => hok i hi he) hcg⟩

/-- A form's value. -/
abbrev fv (h : FH) (A : Option Addr) (n c : Nat) : Value := .agg #[.int .i64 h.k, .int .i64 h.s, .int .i64 h.lo, .int .i64 h.hi, .int .i64 h.st, .slice A n c]
theorem read_num {h : FH} {P : List Fm} {b got : List UInt8} {er : Int} (k0 : h.k = 0) (hs : szB h.s = true) (hn : nn b h.s = (got, er)) :
  (er = 0 ∧ readR (.mk h P) b = .got (.mk ⟨(be got : Nat), []⟩ []) (b.drop got.length) 1 ∧ got.length ≤ b.length ∧ got.length ≤ 8) ∨ (er ≠ 0 ∧ readR (.mk h P) b = .bad b.length er 1 ∧ got = []) := by
 have hb := szB_true hs
 rw [nn, if_pos hs] at hn
 rw [readR_mk, if_pos k0]
 by_cases hl : (b.length : Int) < h.s
 ·rw [nx_short (by omega) hl] at hn
  injection hn with e1 e2
  subst e1 e2
  rw [if_pos hl]
  exact .inr ⟨by omega, rfl, rfl⟩
 ·rw [nx_ok (by omega) (by omega)] at hn
  injection hn with e1 e2
  subst e1 e2
  have hlen : (b.take h.s.toNat).length = h.s.toNat := by rw [List.length_take]; omega
  rw [if_neg hl, hlen]
  exact .inl ⟨rfl, rfl, by omega, by omega⟩

set_option maxRecDepth 100000 in
set_option maxHeartbeats 1600000 in
theorem number_rd (ok : Nat → Prop) (rg cg : Nat) (t : Value) (h : FH) (P : List Fm) (A0 : Option Addr) (c0 : Nat) (b : List UInt8) (a : Int) (w : World) (k0 : h.k = 0) (hs : szB h.s = true) (hr : RdB w rg t 0 0) (hc : Cur w ok cg b a) (hoc : ¬ ok cg) (hrc : rg ≠ cg) (hokl : ∀ i, ok i → i < w.heap.size)
  (hl : b.length ≤ 140737488351232) (ha : 0 ≤ a) (hal : a + b.length ≤ 4611686018427387904) :
  Calls Tryd.prog 104 #[.pointer (some ⟨rg, 0, none⟩), .pointer (some ⟨cg, 0, none⟩), fv h A0 P.length c0] w (FormP ok (S2 rg cg) rg cg t b a w (readR (.mk h P) b)) := by
 obtain ⟨got, er, hn⟩ : ∃ got er, nn b h.s = (got, er) := ⟨_, _, rfl⟩
 have hcs := read_num (P := P) k0 hs hn
 generalize readR (.mk h P) b = R at hcs
 obtain ⟨k, s, lo, hi, st⟩ := h
 simp only at hn hs k0
 subst k0
 have hrlt : rg < w.heap.size := Blk.lt hr
 have hclt := hc.lt
 have ka : Kp (fun _ => False) w ((w.alloc (.cells #[.int .i64 0, .int .i64 s, .int .i64 lo, .int .i64 hi, .int .i64 st, .slice A0 P.length c0] 24)).alloc (.cells #[.int .u64 0, .slice none 0 0, .slice none 0 0] 31)) := ((Kp.refl _ w).alloc _).alloc _
 have HT := Lib.hid (number_any ok cg b a s _ (hc.kp ka (fun _ _ h => h) (fun h => h)) hoc hl ha (by omega))
 have HR0 := Lib.hid (hr.kp ka (fun h => h))
 have hb0 := Blk.new (w.alloc (.cells #[.int .i64 0, .int .i64 s, .int .i64 lo, .int .i64 hi, .int .i64 st, .slice A0 P.length c0] 24)) 31 #[.int .u64 0, .slice none 0 0, .slice none 0 0]
 rw [World.size_alloc] at hb0
 have HB0 := Lib.hid hb0
 have HKA := Lib.hid ka
 clear ka hr hc hb0
 go_enter Tryd.func104, Tryd.ntmps104
 go_wp2_with fail
 refine HT.out.mono ?_
 rintro e w1 ⟨rfl, hc1, hk1⟩
 rw [hn] at hc1 ⊢
 simp only at hc1 ⊢
 have HB1 := Lib.hid (HB0.out.kp hk1 (by omega))
 have HR1 := Lib.hid (HR0.out.kp hk1 hrc)
 have HK1 := Lib.hid (show Kp (S2 rg cg) w w1 from (HKA.out.mono (fun _ _ h => h.elim)).then_ hk1 (fun i hi => .inl (.inr hi)))
 have HC1 := Lib.hid hc1
 clear hc1 hk1
 rcases hcs with ⟨he, hR, hg1, hg2⟩ | ⟨he, hR, hg⟩
 ·have hne : (er != 0) = false := by simp [he]
  have hb2 := HB1.out
  have z0 := hb2.frozen 0
  have z1 := hb2.frozen 1
  have z2 := hb2.frozen 2
  have y0 := hb2.cell 0
  have y1 := hb2.cell 1
  have y2 := hb2.cell 2
  simp at y0 y1 y2
  clear hb2 he
  go_wp2_with fail
  refine bodyPost_ret (v := .agg #[.int .u64 ((be got : Nat) : Int), .slice none 0 0, .slice none 0 0]) (by simp [results, Tryd.results104, go_sem, y0, y1, y2]) rfl ?_
  refine form_fin (okn := fun _ => False) HK1.out (by omega) (VtR.num (u64_be hg2)) (fun i hi => hi.elim) (by omega) (by omega) (fun i hi => by have := hokl i hi; omega) ?_
  rw [hR]
  refine ⟨rfl, HR1.out, ?_⟩
  have hc2 := HC1.out
  rw [show b.length - (b.drop got.length).length = got.length by rw [List.length_drop]; omega]
  exact hc2
 ·have hne : (er != 0) = true := by simpa using he
  have hg0 : got.length = 0 := by rw [hg]; rfl
  have HE := Lib.hid (end_any ok cg (b.drop got.length) (a + got.length) w1 HC1.out (by omega) (by rw [List.length_drop]; omega))
  rw [show a + (got.length : Int) + ((b.drop got.length).length : Int) = a + (b.length : Int) by rw [hg]; simp] at HE
  have HF := Lib.hid (fail_any rg t 0 0 (a + b.length) er w1 HR1.out)
  have hg8 : got.length ≤ 8 := by rw [hg]; simp
  clear hg hg0
  go_wp2_with (first | (go_at_call 82; refine HE.out.mono ?_; rintro e w2 ⟨rfl, rfl⟩) | (go_at_call 58; refine HF.out.mono ?_; rintro e w2 ⟨⟨v2, rfl⟩, hr2, hk2⟩; have hb2 := HB1.out.kp hk2 (by omega); have z0 := hb2.frozen 0; have z1 := hb2.frozen 1; have z2 := hb2.frozen 2; have y0 := hb2.cell 0; have y1 := hb2.cell 1; have y2 := hb2.cell 2; simp at y0 y1 y2; clear hb2))
  refine bodyPost_ret (v := .agg #[.int .u64 ((be got : Nat) : Int), .slice none 0 0, .slice none 0 0]) (by simp [results, Tryd.results104, go_sem, y0, y1, y2]) rfl ?_
  refine form_fin (okn := fun _ => False) (HK1.out.then_ hk2 (fun i hi => .inl (.inl hi))) (by omega) (VtR.num (u64_be hg8)) (fun i hi => hi.elim) (by omega) (by omega) (fun i hi => by have := hokl i hi; omega) ?_
  rw [hR]
  exact ⟨hr2, he⟩
end Go.Proofs.YtdhnfccgojgehaaDoor

namespace Go.Proofs.YtdhnfccgojgehaaDoor
open Go.RowKit

/-- What sub leaves. -/
def SubQ (ok : Nat → Prop) (rg cg : Nat) (t : Value) (b : List UInt8) (a : Int) (s : Nat) (w : World) (L : Int × Int × Nat) (e : Ending) (w' : World) : Prop :=
 Kp (S2 rg cg) w w' ∧ ((L.2.1 ≠ 0 ∧ e = .returned (.pointer none) ∧ RdB w' rg t (a + L.1) L.2.1) ∨
  (L.2.1 = 0 ∧ ∃ g', e = .returned (.pointer (some ⟨g', 0, none⟩)) ∧ w.heap.size ≤ g' ∧ Cur w' ok g' ((b.drop s).take L.2.2) (a + s) ∧ Cur w' ok cg (b.drop (s + L.2.2)) (a + (s + L.2.2 : Nat)) ∧ RdB w' rg t 0 0))
theorem len_cases {h : FH} {b got : List UInt8} {er : Int} (hs : 1 ≤ h.s ∧ h.s ≤ 3) (hn : nn b h.s = (got, er)) :
  (er ≠ 0 ∧ lenE h b = ((b.length : Int), er, 0) ∧ got = []) ∨
  (er = 0 ∧ got = b.take h.s.toNat ∧ h.s.toNat ≤ b.length ∧ be got ≤ 16777215 ∧
   ((((be got : Nat) : Int) < h.lo ∨ h.hi < ((be got : Nat) : Int) ∨ Int.tmod ((be got : Nat) : Int) h.st ≠ 0) ∧ lenE h b = (0, 5, 0) ∨
    (h.lo ≤ ((be got : Nat) : Int) ∧ ((be got : Nat) : Int) ≤ h.hi ∧ Int.tmod ((be got : Nat) : Int) h.st = 0) ∧ (b.length < h.s.toNat + be got ∧ lenE h b = ((b.length : Int), 4, 0) ∨ h.s.toNat + be got ≤ b.length ∧ lenE h b = (0, 0, be got)))) := by
 have hb : szB h.s = true := by unfold szB; simp only [Bool.or_eq_true, decide_eq_true_eq]; omega
 rw [nn, if_pos hb] at hn
 unfold lenE
 by_cases hl : (b.length : Int) < h.s
 ·rw [nx_short (by omega) hl] at hn
  injection hn with e1 e2
  subst e1 e2
  rw [if_pos hl]
  exact .inl ⟨by omega, rfl, rfl⟩
 ·rw [nx_ok (by omega) (by omega)] at hn
  injection hn with e1 e2
  subst e1 e2
  rw [if_neg hl]
  have hlt := be_lt (b.take h.s.toNat)
  have hlen : (b.take h.s.toNat).length = h.s.toNat := by rw [List.length_take]; omega
  rw [hlen] at hlt
  have h3 : (256 : Nat) ^ h.s.toNat ≤ 256 ^ 3 := Nat.pow_le_pow_right (by omega) (by omega)
  have h4 : (256 : Nat) ^ 3 = 16777216 := by decide
  refine .inr ⟨rfl, rfl, by omega, by omega, ?_⟩
  split
  ·rename_i hc
   exact .inl ⟨hc, rfl⟩
  ·rename_i hc
   simp only [not_or, Decidable.not_not] at hc
   refine .inr ⟨⟨by omega, by omega, hc.2.2⟩, ?_⟩
   split
   ·exact .inl ⟨by assumption, rfl⟩
   ·exact .inr ⟨by omega, rfl⟩

set_option maxRecDepth 100000 in
set_option maxHeartbeats 3200000 in
theorem sub_rd (ok : Nat → Prop) (rg cg : Nat) (t : Value) (h : FH) (n0 : Nat) (A0 : Option Addr) (c0 : Nat) (b : List UInt8) (a : Int) (w : World) (hs : 1 ≤ h.s ∧ h.s ≤ 3) (hst : 1 ≤ h.st ∧ h.st ≤ 65536) (hr : RdB w rg t 0 0) (hc : Cur w ok cg b a) (hoc : ¬ ok cg) (hrc : rg ≠ cg)
  (hl : b.length ≤ 140737488351232) (ha : 0 ≤ a) (hal : a + b.length ≤ 4611686018427387904) :
  Calls Tryd.prog 73 #[.pointer (some ⟨rg, 0, none⟩), .pointer (some ⟨cg, 0, none⟩), fv h A0 n0 c0] w (SubQ ok rg cg t b a h.s.toNat w (lenE h b)) := by
 obtain ⟨got, er, hn⟩ : ∃ got er, nn b h.s = (got, er) := ⟨_, _, rfl⟩
 have hcs := len_cases hs hn
 generalize lenE h b = L at hcs
 obtain ⟨k, s, lo, hi, st⟩ := h
 simp only at hn hs hst hcs
 have hrlt : rg < w.heap.size := Blk.lt hr
 have hclt := hc.lt
 have ka : Kp (fun _ => False) w (w.alloc (.cells #[.int .i64 k, .int .i64 s, .int .i64 lo, .int .i64 hi, .int .i64 st, .slice A0 n0 c0] 24)) := (Kp.refl _ w).alloc _
 have HAT := Lib.hid (at_any ok cg b a _ (hc.kp ka (fun _ _ h => h) (fun h => h)))
 have HT := Lib.hid (number_any ok cg b a s _ (hc.kp ka (fun _ _ h => h) (fun h => h)) hoc hl ha (by omega))
 have HR0 := Lib.hid (hr.kp ka (fun h => h))
 have HB0 := Lib.hid (Blk.new w 24 #[.int .i64 k, .int .i64 s, .int .i64 lo, .int .i64 hi, .int .i64 st, .slice A0 n0 c0])
 have HKA := Lib.hid ka
 clear ka hr hc
 go_enter Tryd.func73, Tryd.ntmps73
 go_wp2_with (go_at_call 43; refine HAT.out.mono ?_; rintro e w0 ⟨rfl, rfl⟩)
 refine HT.out.mono ?_
 rintro e w1 ⟨rfl, hc1, hk1⟩
 rw [hn] at hc1 ⊢
 simp only at hc1 ⊢
 have HB1 := Lib.hid (HB0.out.kp hk1 (by omega))
 have HR1 := Lib.hid (HR0.out.kp hk1 hrc)
 have HK1 := Lib.hid (show Kp (S2 rg cg) w w1 from (HKA.out.mono (fun _ _ h => h.elim)).then_ hk1 (fun i hi => .inl (.inr hi)))
 have HC1 := Lib.hid hc1
 have hb1 := HB1.out
 have y0 := hb1.cell 0
 have y1 := hb1.cell 1
 have y2 := hb1.cell 2
 have y3 := hb1.cell 3
 have y4 := hb1.cell 4
 simp at y0 y1 y2 y3 y4
 clear hc1 hk1 hb1
 rcases hcs with ⟨he, hL, hg⟩ | ⟨he, hg, hsl, hbe, hcs⟩
 ·have hne : (er != 0) = true := by simpa using he
  have hg0 : got.length = 0 := by rw [hg]; rfl
  have HE := Lib.hid (end_any ok cg (b.drop got.length) (a + got.length) w1 HC1.out (by omega) (by rw [List.length_drop]; omega))
  rw [show a + (got.length : Int) + ((b.drop got.length).length : Int) = a + (b.length : Int) by rw [hg]; simp] at HE
  have HF := Lib.hid (fail_any rg t 0 0 (a + b.length) er w1 HR1.out)
  have hz : be got = 0 := by rw [hg]; rfl
  rw [hz]
  clear hg hz HT hg0
  go_wp2_with (first | (go_at_call 82; refine HE.out.mono ?_; rintro e w2 ⟨rfl, rfl⟩) | (go_at_call 58; refine HF.out.mono ?_; rintro e w2 ⟨⟨v2, rfl⟩, hr2, hk2⟩))
  go_ret
  rw [hL]
  exact ⟨HK1.out.then_ hk2 (fun i hi => .inl (.inl hi)), .inl ⟨he, rfl, hr2⟩⟩
 ·have hne : (er != 0) = false := by simp [he]
  have hgl : got.length = s.toNat := by rw [hg, List.length_take]; omega
  have HC2 := HC1.out
  rw [hgl] at HC2
  have HC3 := Lib.hid HC2
  clear HC2 HC1 HT he hg hgl
  generalize be got = m at *
  have hwm : IntKind.i64.wrap (m : Int) = (m : Int) := IntWalk.i64_in _ (by omega)
  rcases hcs with ⟨hbad, hL⟩ | ⟨⟨q1, q2, q3⟩, hlen⟩
  ·have HF := Lib.hid (fail_any rg t 0 0 a 5 w1 HR1.out)
   have hst0 : st ≠ 0 := by omega
   have HX := Lib.hid (show ∀ w2, RdB w2 rg t a 5 → Kp (fun i => i = rg) w1 w2 → SubQ ok rg cg t b a s.toNat w L (.returned (.pointer none)) w2 from fun w2 hr2 hk2 => by
    rw [hL]
    exact ⟨HK1.out.then_ hk2 (fun i hi => .inl (.inl hi)), .inl ⟨by simp, rfl, by simpa using hr2⟩⟩)
   clear hL
   by_cases p1 : (m : Int) < lo
   ·clear hbad
    go_wp2_with (go_at_call 58; refine HF.out.mono ?_; rintro e w2 ⟨⟨v2, rfl⟩, hr2, hk2⟩)
    go_ret
    exact HX.out w2 hr2 hk2
   ·by_cases p2 : hi < (m : Int)
    ·clear hbad
     go_wp2_with (go_at_call 58; refine HF.out.mono ?_; rintro e w2 ⟨⟨v2, rfl⟩, hr2, hk2⟩)
     go_ret
     exact HX.out w2 hr2 hk2
    ·have p3 : ((m : Int) % st != 0) = true := by
      rw [← Int.tmod_eq_emod_of_nonneg (by omega)]
      rcases hbad with h | h | h
      ·exact absurd h p1
      ·exact absurd h p2
      ·simpa using h
     clear hbad
     go_wp2_with (go_at_call 58; refine HF.out.mono ?_; rintro e w2 ⟨⟨v2, rfl⟩, hr2, hk2⟩)
     go_ret
     exact HX.out w2 hr2 hk2
  ·have hst0 : st ≠ 0 := by omega
   have p3 : ((m : Int) % st != 0) = false := by rw [Int.tmod_eq_emod_of_nonneg (by omega)] at q3; simp [q3]
   have p1 : decide ((m : Int) < lo) = false := by simp; omega
   have p2 : decide (hi < (m : Int)) = false := by simp; omega
   clear q3
   have hdl : (b.drop s.toNat).length = b.length - s.toNat := List.length_drop
   rcases hlen with ⟨hshort, hL⟩ | ⟨hfit, hL⟩
   ·have HS := Lib.hid (sub_err ok cg (b.drop s.toNat) (a + s.toNat) m w1 HC3.out hoc (by omega) (by omega) (by omega) (.inr (by omega)))
    have hnx : (nx (b.drop s.toNat) (m : Int)).2 = 4 := by rw [nx_short (by omega) (by omega)]
    have HX := Lib.hid (show ∀ w2 w3, Cur w2 ok cg (b.drop s.toNat) (a + s.toNat) → Kp (fun i => i = cg) w1 w2 → RdB w3 rg t (a + b.length) 4 → Kp (fun i => i = rg) w2 w3 → SubQ ok rg cg t b a s.toNat w L (.returned (.pointer none)) w3 from fun w2 w3 _ hk2 hr3 hk3 => by
     rw [hL]
     exact ⟨(HK1.out.then_ hk2 (fun i hi => .inl (.inr hi))).then_ hk3 (fun i hi => .inl (.inl hi)), .inl ⟨by simp, rfl, hr3⟩⟩)
    have HEN := Lib.hid (fun w2 (hc2 : Cur w2 ok cg (b.drop s.toNat) (a + s.toNat)) => end_any ok cg (b.drop s.toNat) (a + s.toNat) w2 hc2 (by omega) (by omega))
    have HFA := Lib.hid (fun w2 (hk2 : Kp (fun i => i = cg) w1 w2) => fail_any rg t 0 0 (a + b.length) 4 w2 (HR1.out.kp hk2 hrc))
    rw [show a + (s.toNat : Int) + ((b.drop s.toNat).length : Int) = a + (b.length : Int) by omega] at HEN
    unfold SubE at HS
    rw [hnx] at HS
    clear hL hnx hdl
    go_wp2_with (first | (go_at_call 83; refine HS.out.mono ?_; rintro e w2 ⟨rfl, hc2, hk2⟩; have HE2 := Lib.hid (HEN.out w2 hc2); have HF2 := Lib.hid (HFA.out w2 hk2); have HX2 := Lib.hid (fun w3 => HX.out w2 w3 hc2 hk2); clear HEN HFA HX hc2 hk2) | (go_at_call 82; refine HE2.out.mono ?_; rintro e w3 ⟨rfl, rfl⟩) | (go_at_call 58; refine HF2.out.mono ?_; rintro e w3 ⟨⟨v2, rfl⟩, hr3, hk3⟩))
    go_ret
    exact HX2.out w3 hr3 hk3
   ·have HS := Lib.hid (sub_ok ok cg (b.drop s.toNat) (a + s.toNat) m w1 HC3.out hoc (by omega) (by omega) (by omega) (by omega))
    have HX := Lib.hid (show ∀ g' w2, w1.heap.size ≤ g' → Cur w2 ok g' ((b.drop s.toNat).take m) (a + s.toNat) → Cur w2 ok cg ((b.drop s.toNat).drop m) (a + s.toNat + m) → Kp (fun i => i = cg) w1 w2 → SubQ ok rg cg t b a s.toNat w L (.returned (.pointer (some ⟨g', 0, none⟩))) w2 from fun g' w2 hg' hc2 hc3 hk2 => by
     rw [hL]
     refine ⟨HK1.out.then_ hk2 (fun i hi => .inl (.inr hi)), .inr ⟨rfl, g', rfl, by have := HK1.out.size; omega, hc2, ?_, HR1.out.kp hk2 hrc⟩⟩
     rw [List.drop_drop] at hc3
     have e : a + (s.toNat : Int) + (m : Int) = a + ((s.toNat + m : Nat) : Int) := by omega
     rw [e] at hc3
     exact hc3)
    clear hL hdl
    go_wp2_with (go_at_call 83; refine HS.out.mono ?_; rintro e w2 ⟨g', rfl, hg', hc2, hc3, hk2⟩; have HX2 := Lib.hid (HX.out g' w2 hg' hc2 hc3 hk2); clear HX hc2 hc3 hk2 hg')
    go_ret
    exact HX2.out
end Go.Proofs.YtdhnfccgojgehaaDoor

namespace Go.Proofs.YtdhnfccgojgehaaDoor
open Go.RowKit

theorem Cur.drewN {w : World} {ok : Nat → Prop} {g : Nat} {l : List UInt8} {a : Int} (h : Cur w ok g l a) (n : Nat) : Cur (w.drewN n) ok g l a := h.kp (S := fun _ => False) ((Kp.refl _ w).drewN n) (fun _ _ h => h) (fun h => h)
theorem read_opq {h : FH} {P : List Fm} {b : List UInt8} (k1 : h.k = 1) : readR (.mk h P) b = if (lenE h b).2.1 ≠ 0 then .bad (lenE h b).1 (lenE h b).2.1 1 else .got (.mk ⟨0, (b.drop h.s.toNat).take (lenE h b).2.2⟩ []) (b.drop (h.s.toNat + (lenE h b).2.2)) 1 := by
 rw [readR_mk, if_neg (by omega), if_pos k1]
set_option maxRecDepth 100000 in
set_option maxHeartbeats 1600000 in
theorem opaque_rd (ok : Nat → Prop) (rg cg : Nat) (t : Value) (h : FH) (P : List Fm) (A0 : Option Addr) (c0 : Nat) (b : List UInt8) (a : Int) (w : World) (k1 : h.k = 1) (hs : 1 ≤ h.s ∧ h.s ≤ 3) (hst : 1 ≤ h.st ∧ h.st ≤ 65536) (hr : RdB w rg t 0 0) (hc : Cur w ok cg b a) (hor : ¬ ok rg) (hoc : ¬ ok cg) (hrc : rg ≠ cg) (hokl : ∀ i, ok i → i < w.heap.size)
  (hl : b.length ≤ 140737488351232) (ha : 0 ≤ a) (hal : a + b.length ≤ 4611686018427387904) :
  Calls Tryd.prog 105 #[.pointer (some ⟨rg, 0, none⟩), .pointer (some ⟨cg, 0, none⟩), fv h A0 P.length c0] w (FormP ok (S2 rg cg) rg cg t b a w (readR (.mk h P) b)) := by
 have hR := read_opq (P := P) (b := b) k1
 have hsub := fun (W : World) h1 h2 => sub_rd ok rg cg t h P.length A0 c0 b a W hs hst h1 h2 hoc hrc hl ha hal
 have hLn : (lenE h b).2.1 = 0 → h.s.toNat + (lenE h b).2.2 ≤ b.length := fun he => (lenE_ok he).2.2.2.2.1
 generalize readR (.mk h P) b = R at hR
 generalize lenE h b = L at hR hsub hLn
 obtain ⟨k, s, lo, hi, st⟩ := h
 simp only at hs hst hR k1 hLn hsub
 subst k1
 have hrlt : rg < w.heap.size := Blk.lt hr
 have hclt := hc.lt
 have ka : Kp (fun _ => False) w ((w.alloc (.cells #[.int .i64 1, .int .i64 s, .int .i64 lo, .int .i64 hi, .int .i64 st, .slice A0 P.length c0] 24)).alloc (.cells #[.int .u64 0, .slice none 0 0, .slice none 0 0] 31)) := ((Kp.refl _ w).alloc _).alloc _
 have HS := Lib.hid (hsub _ (hr.kp ka (fun h => h)) (hc.kp ka (fun _ _ h => h) (fun h => h)))
 have hb0 := Blk.new (w.alloc (.cells #[.int .i64 1, .int .i64 s, .int .i64 lo, .int .i64 hi, .int .i64 st, .slice A0 P.length c0] 24)) 31 #[.int .u64 0, .slice none 0 0, .slice none 0 0]
 rw [World.size_alloc] at hb0
 have HB0 := Lib.hid hb0
 have HKA := Lib.hid ka
 have hsz : ((w.alloc (.cells #[.int .i64 1, .int .i64 s, .int .i64 lo, .int .i64 hi, .int .i64 st, .slice A0 P.length c0] 24)).alloc (.cells #[.int .u64 0, .slice none 0 0, .slice none 0 0] 31)).heap.size = w.heap.size + 2 := by rw [World.size_alloc, World.size_alloc]
 have HRR := Lib.hid hR
 have HLN := Lib.hid hLn
 clear ka hr hc hb0 hsub hR hLn
 go_enter Tryd.func105, Tryd.ntmps105
 go_wp2_with fail
 refine HS.out.mono ?_
 rintro e w1 ⟨hk1, hres⟩
 have HB1 := Lib.hid (HB0.out.kp hk1 (by unfold S2; omega))
 have HK1 := Lib.hid (show Kp (S2 rg cg) w w1 from (HKA.out.mono (fun _ _ h => h.elim)).then_ hk1 (fun i hi => .inl hi))
 have hz1 := hk1.size
 rw [hsz] at hz1
 rcases hres with ⟨he, rfl, hr1⟩ | ⟨he, g', rfl, hg', hc1, hc2, hr1⟩
 ·have HR1 := Lib.hid hr1
  have hR := HRR.out
  rw [if_pos he] at hR
  have hb2 := HB1.out
  have z0 := hb2.frozen 0
  have z1 := hb2.frozen 1
  have z2 := hb2.frozen 2
  have y0 := hb2.cell 0
  have y1 := hb2.cell 1
  have y2 := hb2.cell 2
  simp at y0 y1 y2
  have HE := Lib.hid he
  clear hb2 hr1 hk1 HS he
  go_wp2_with fail
  refine bodyPost_ret (v := .agg #[.int .u64 0, .slice none 0 0, .slice none 0 0]) (by simp [results, Tryd.results105, go_sem, y0, y1, y2]) rfl ?_
  refine form_fin (okn := fun _ => False) HK1.out (by omega) VtR.zero (fun i hi => hi.elim) (by omega) (by omega) (fun i hi => by have := hokl i hi; omega) ?_
  rw [hR]
  exact ⟨HR1.out, HE.out⟩
 ·have hl2 := HLN.out he
  have hR := HRR.out
  rw [if_neg (by simp [he])] at hR
  clear HRR HLN
  generalize L.2.2 = n at *
  have hdl : ((b.drop s.toNat).take n).length = n := by rw [List.length_take, List.length_drop]; omega
  have hnx : nx ((b.drop s.toNat).take n) (n : Int) = ((b.drop s.toNat).take n, 0) := by
   rw [nx_ok (by omega) (by omega)]
   simp [List.take_take]
  rw [hsz] at hg'
  have HL := Lib.hid (left_any ok g' _ _ w1 hc1)
  generalize (b.drop s.toNat).take n = B at *
  rw [hdl] at HL
  have HY := Lib.hid (bytes_any' ok rg g' t _ _ n w1 _ _ hnx hr1 hc1 (fun h => by have := hokl g' h; omega) (by omega) (fun i hi => by have := hokl i hi; omega) (by omega) (by omega) (by omega))
  have HC2 := Lib.hid hc2
  clear hr1 hc1 hc2 hk1 HS hnx hdl he
  go_wp2_with (go_at_call 42; refine HL.out.mono ?_; rintro e w2 ⟨rfl, rfl⟩)
  refine HY.out.mono ?_
  rintro e w2 ⟨A5, c5, rfl, hv2, hk2, hq1, _⟩
  have hb2 := HB1.out.kp hk2 (by unfold S2; omega)
  have z0 := hb2.frozen 0
  have z1 := hb2.frozen 1
  have z2 := hb2.frozen 2
  have y0 := hb2.cell 0
  have y1 := hb2.cell 1
  have y2 := hb2.cell 2
  simp at y0 y1 y2
  have HV2 := Lib.hid hv2
  have HQ1 := Lib.hid (hq1 (by first | rfl | trivial))
  have HK2 := Lib.hid hk2
  clear hb2 hq1 hv2 hk2
  go_wp2_with fail
  refine bodyPost_ret (v := .agg #[.int .u64 0, .slice A5 B.length c5, .slice none 0 0]) (by simp [results, Tryd.results105, go_sem, y0, y1, y2]) rfl ?_
  refine form_fin (okn := fun i => w1.heap.size ≤ i) (HK1.out.then_ HK2.out (fun i hi => by unfold S2 at hi ⊢; omega)) (by omega) HV2.out (fun i hi => by omega) (by omega) (by omega) (fun i hi => by have := hokl i hi; omega) ?_
  rw [hR]
  refine ⟨rfl, HQ1.out.1, ?_⟩
  rw [show b.length - (b.drop (s.toNat + n)).length = s.toNat + n by rw [List.length_drop]; omega]
  exact HC2.out.kp HK2.out (fun i hi he => by rcases he with rfl | rfl; exact hor hi; have := hokl _ hi; omega) (by unfold S2; omega)

theorem read_fix {h : FH} {P : List Fm} {b got : List UInt8} {er : Int} (k5 : h.k = 5) (h0 : 0 ≤ h.lo) (hn : nx b h.lo = (got, er)) :
  (er = 0 ∧ readR (.mk h P) b = .got (.mk ⟨0, got⟩ []) (b.drop got.length) 1 ∧ got.length ≤ b.length) ∨ (er ≠ 0 ∧ readR (.mk h P) b = .bad b.length er 1) := by
 rw [readR_mk, if_neg (by omega), if_neg (by omega), if_neg (by omega), if_pos k5]
 by_cases hl : (b.length : Int) < h.lo
 ·rw [nx_short (by omega) hl] at hn
  injection hn with e1 e2
  subst e1 e2
  rw [if_pos hl]
  exact .inr ⟨by omega, rfl⟩
 ·rw [nx_ok (by omega) (by omega)] at hn
  injection hn with e1 e2
  subst e1 e2
  have hlen : (b.take h.lo.toNat).length = h.lo.toNat := by rw [List.length_take]; omega
  rw [if_neg hl, hlen]
  exact .inl ⟨rfl, rfl, by omega⟩
set_option maxRecDepth 100000 in
set_option maxHeartbeats 1600000 in
theorem fixed_rd (ok : Nat → Prop) (rg cg : Nat) (t : Value) (h : FH) (P : List Fm) (A0 : Option Addr) (c0 : Nat) (b : List UInt8) (a : Int) (w : World) (k5 : h.k = 5) (h0 : 0 ≤ h.lo) (hr : RdB w rg t 0 0) (hc : Cur w ok cg b a) (hoc : ¬ ok cg) (hrc : rg ≠ cg) (hokl : ∀ i, ok i → i < w.heap.size)
  (hl : b.length ≤ 140737488351232) (ha : 0 ≤ a) (hal : a + b.length ≤ 4611686018427387904) :
  Calls Tryd.prog 107 #[.pointer (some ⟨rg, 0, none⟩), .pointer (some ⟨cg, 0, none⟩), fv h A0 P.length c0] w (FormP ok (S2 rg cg) rg cg t b a w (readR (.mk h P) b)) := by
 obtain ⟨got, er, hn⟩ : ∃ got er, nx b h.lo = (got, er) := ⟨_, _, rfl⟩
 have HCS := Lib.hid (read_fix (P := P) k5 h0 hn)
 generalize readR (.mk h P) b = R at HCS
 obtain ⟨k, s, lo, hi, st⟩ := h
 simp only at hn k5
 subst k5
 have hrlt : rg < w.heap.size := Blk.lt hr
 have hclt := hc.lt
 have ka : Kp (fun _ => False) w ((w.alloc (.cells #[.int .i64 5, .int .i64 s, .int .i64 lo, .int .i64 hi, .int .i64 st, .slice A0 P.length c0] 24)).alloc (.cells #[.int .u64 0, .slice none 0 0, .slice none 0 0] 31)) := ((Kp.refl _ w).alloc _).alloc _
 have hsz : ((w.alloc (.cells #[.int .i64 5, .int .i64 s, .int .i64 lo, .int .i64 hi, .int .i64 st, .slice A0 P.length c0] 24)).alloc (.cells #[.int .u64 0, .slice none 0 0, .slice none 0 0] 31)).heap.size = w.heap.size + 2 := by rw [World.size_alloc, World.size_alloc]
 have HY := Lib.hid (bytes_any' ok rg cg t b a lo _ got er hn (hr.kp ka (fun h => h)) (hc.kp ka (fun _ _ h => h) (fun h => h)) hoc hrc (fun i hi => by have := hokl i hi; rw [hsz]; omega) hl ha hal)
 have hb0 := Blk.new (w.alloc (.cells #[.int .i64 5, .int .i64 s, .int .i64 lo, .int .i64 hi, .int .i64 st, .slice A0 P.length c0] 24)) 31 #[.int .u64 0, .slice none 0 0, .slice none 0 0]
 rw [World.size_alloc] at hb0
 have HB0 := Lib.hid hb0
 have HKA := Lib.hid ka
 clear ka hr hc hb0 hn
 go_enter Tryd.func107, Tryd.ntmps107
 go_wp2_with fail
 refine HY.out.mono ?_
 rintro e w2 ⟨A5, c5, rfl, hv2, hk2, hq1, hq2⟩
 have hb2 := HB0.out.kp hk2 (by unfold S2; omega)
 have z0 := hb2.frozen 0
 have z1 := hb2.frozen 1
 have z2 := hb2.frozen 2
 have y0 := hb2.cell 0
 have y1 := hb2.cell 1
 have y2 := hb2.cell 2
 simp at y0 y1 y2
 rw [hsz] at hv2
 have HV2 := Lib.hid hv2
 have HQ1 := Lib.hid hq1
 have HQ2 := Lib.hid hq2
 have HK2 := Lib.hid (show Kp (S2 rg cg) w w2 from (HKA.out.mono (fun _ _ h => h.elim)).then_ hk2 (fun i hi => .inl hi))
 clear hb2 hq1 hq2 hv2 hk2
 go_wp2_with fail
 refine bodyPost_ret (v := .agg #[.int .u64 0, .slice A5 got.length c5, .slice none 0 0]) (by simp [results, Tryd.results107, go_sem, y0, y1, y2]) rfl ?_
 refine form_fin (okn := fun i => w.heap.size + 2 ≤ i) HK2.out (by omega) HV2.out (fun i hi => by omega) (by omega) (by omega) (fun i hi => by have := hokl i hi; omega) ?_
 rcases HCS.out with ⟨he, hR, hg⟩ | ⟨he, hR⟩
 ·rw [hR]
  refine ⟨rfl, (HQ1.out he).1, ?_⟩
  rw [show b.length - (b.drop got.length).length = got.length by rw [List.length_drop]; omega]
  exact (HQ1.out he).2
 ·rw [hR]
  exact ⟨HQ2.out he, he⟩
end Go.Proofs.YtdhnfccgojgehaaDoor

namespace Go.Proofs.YtdhnfccgojgehaaDoor
open Go.RowKit

theorem RdB.drewN {w : World} {g : Nat} {t : Value} {a e : Int} (h : RdB w g t a e) (n : Nat) : RdB (w.drewN n) g t a e := h
set_option maxRecDepth 100000 in
set_option maxHeartbeats 1600000 in
theorem rest_rd (ok : Nat → Prop) (rg cg : Nat) (t : Value) (h : FH) (P : List Fm) (A0 : Option Addr) (c0 : Nat) (b : List UInt8) (a : Int) (w : World) (k4 : h.k = 4) (h0 : 0 ≤ h.lo ∧ h.lo ≤ h.hi ∧ h.hi ≤ 16777215) (hr : RdB w rg t 0 0) (hc : Cur w ok cg b a) (hoc : ¬ ok cg) (hrc : rg ≠ cg) (hokl : ∀ i, ok i → i < w.heap.size)
  (hl : b.length ≤ 140737488351232) (ha : 0 ≤ a) (hal : a + b.length ≤ 4611686018427387904) :
  Calls Tryd.prog 106 #[.pointer (some ⟨rg, 0, none⟩), .pointer (some ⟨cg, 0, none⟩), fv h A0 P.length c0] w (FormP ok (S2 rg cg) rg cg t b a w (readR (.mk h P) b)) := by
 have hR : readR (.mk h P) b = if (b.length : Int) < h.lo then .bad b.length 4 1 else if h.hi < (b.length : Int) then .bad h.hi 6 1 else .got (.mk ⟨0, b⟩ []) [] 1 := by
  rw [readR_mk, if_neg (by omega), if_neg (by omega), if_pos k4]
 generalize readR (.mk h P) b = R at hR
 obtain ⟨k, s, lo, hi, st⟩ := h
 simp only at hR k4 h0
 subst k4
 have hrlt : rg < w.heap.size := Blk.lt hr
 have hclt := hc.lt
 have ka : Kp (fun _ => False) w ((w.alloc (.cells #[.int .i64 4, .int .i64 s, .int .i64 lo, .int .i64 hi, .int .i64 st, .slice A0 P.length c0] 24)).alloc (.cells #[.int .u64 0, .slice none 0 0, .slice none 0 0] 31)) := ((Kp.refl _ w).alloc _).alloc _
 have hsz : ((w.alloc (.cells #[.int .i64 4, .int .i64 s, .int .i64 lo, .int .i64 hi, .int .i64 st, .slice A0 P.length c0] 24)).alloc (.cells #[.int .u64 0, .slice none 0 0, .slice none 0 0] 31)).heap.size = w.heap.size + 2 := by rw [World.size_alloc, World.size_alloc]
 have hb0 := Blk.new (w.alloc (.cells #[.int .i64 4, .int .i64 s, .int .i64 lo, .int .i64 hi, .int .i64 st, .slice A0 P.length c0] 24)) 31 #[.int .u64 0, .slice none 0 0, .slice none 0 0]
 rw [World.size_alloc] at hb0
 have HB0 := Lib.hid hb0
 have HBF := Lib.hid ((Blk.new w 24 #[.int .i64 4, .int .i64 s, .int .i64 lo, .int .i64 hi, .int .i64 st, .slice A0 P.length c0]).alloc (.cells #[.int .u64 0, .slice none 0 0, .slice none 0 0] 31))
 have HC0 := Lib.hid (hc.kp ka (fun _ _ h => h) (fun h => h))
 have HR0 := Lib.hid (hr.kp ka (fun h => h))
 have HKA := Lib.hid ka
 have HRR := Lib.hid hR
 clear ka hr hc hb0 hR
 go_enter Tryd.func106, Tryd.ntmps106
 go_upto_region 1 with fail
 obtain ⟨W, hW⟩ : ∃ W, (w.alloc (.cells #[.int .i64 4, .int .i64 s, .int .i64 lo, .int .i64 hi, .int .i64 st, .slice A0 P.length c0] 24)).alloc (.cells #[.int .u64 0, .slice none 0 0, .slice none 0 0] 31) = W := ⟨_, rfl⟩
 rw [hW] at HB0 HBF HC0 HR0 HKA hsz ⊢
 clear hW
 have f2 := HBF.out.cell 2
 have f3 := HBF.out.cell 3
 simp at f2 f3
 have HL := Lib.hid (fun n => left_any ok cg b a (W.drewN n) (HC0.out.drewN n))
 -- the stores of nothing, and the reader's error
 have HZ := Lib.hid (show ∀ W4 o er, er ≠ 0 → Kp (S2 rg cg) w W4 → RdB W4 rg t (a + o) er → R = .bad o er 1 → FormP ok (S2 rg cg) rg cg t b a w R (.returned (.agg #[.int .u64 0, .slice none 0 0, .slice none 0 0])) (((W4.setCell ⟨w.heap.size + 1, 0, none⟩ (.int .u64 0)).setCell ⟨w.heap.size + 1, 1, none⟩ (.slice none 0 0)).setCell ⟨w.heap.size + 1, 2, none⟩ (.slice none 0 0)) from fun W4 o er he hk hr4 hR => by
  refine form_fin (okn := fun _ => False) hk (by omega) VtR.zero (fun i hi => hi.elim) (by omega) (by omega) (fun i hi => by have := hokl i hi; omega) ?_
  rw [hR]
  exact ⟨hr4, he⟩)
 by_cases p1 : (b.length : Int) < lo
 ·have q1 : decide ((b.length : Int) < lo) = true := decide_eq_true p1
  go_quiet ((go_at_call 42; exact quiet_left (HL.out _)))
  generalize hW2 : W.drewN _ = W2
  have hk2 : Kp (fun _ => False) W W2 := hW2 ▸ (Kp.refl _ W).drewN _
  have HE2 := Lib.hid (end_any ok cg b a W2 (HC0.out.kp hk2 (fun _ _ h => h) (fun h => h)) ha (by omega))
  have HF2 := Lib.hid (fail_any rg t 0 0 (a + b.length) 4 W2 (HR0.out.kp hk2 (fun h => h)))
  have HB2 := Lib.hid (HB0.out.kp hk2 (fun h => h))
  have HK2 := Lib.hid (HKA.out.then_ hk2 (fun _ h => h.elim))
  have hR := HRR.out
  rw [if_pos p1] at hR
  have HRR2 := Lib.hid hR
  clear hk2 hW2 HL HRR f2 f3 p1 hR
  go_wp2_with (first | (go_at_call 82; refine HE2.out.mono ?_; rintro e w3 ⟨rfl, rfl⟩) | (go_at_call 58; refine HF2.out.mono ?_; rintro e w3 ⟨⟨v2, rfl⟩, hr3, hk3⟩; have hb3 := HB2.out.kp hk3 (by omega); have z0 := hb3.frozen 0; have z1 := hb3.frozen 1; have z2 := hb3.frozen 2; have y0 := hb3.cell 0; have y1 := hb3.cell 1; have y2 := hb3.cell 2; simp at y0 y1 y2; have e2 := Blk.cell hr3 2; simp at e2; have HX := Lib.hid (HZ.out w3 _ 4 (by omega) ((HK2.out.mono (fun _ _ h => h.elim)).then_ hk3 (fun i hi => .inl (.inl hi))) hr3 HRR2.out); clear hb3 hk3 hr3))
  exact bodyPost_ret (v := .agg #[.int .u64 0, .slice none 0 0, .slice none 0 0]) (by simp [results, Tryd.results106, go_sem, y0, y1, y2]) rfl HX.out
 ·have q1 : decide ((b.length : Int) < lo) = false := decide_eq_false p1
  go_quiet ((go_at_call 42; exact quiet_left (HL.out _)))
  generalize hW2 : W.drewN _ = W2
  have hk2 : Kp (fun _ => False) W W2 := hW2 ▸ (Kp.refl _ W).drewN _
  have HC2 := Lib.hid (HC0.out.kp hk2 (fun _ _ h => h) (fun h => h))
  have HR2 := Lib.hid (HR0.out.kp hk2 (fun h => h))
  have HB2 := Lib.hid (HB0.out.kp hk2 (fun h => h))
  have HBF2 := Lib.hid (HBF.out.kp hk2 (fun h => h))
  have HK2 := Lib.hid (HKA.out.then_ hk2 (fun _ h => h.elim))
  have hR := HRR.out
  rw [if_neg p1] at hR
  have HRR2 := Lib.hid hR
  have hz2 := hk2.size
  clear hk2 hW2 HL HRR f2 f3 p1 hR HC0 HR0 HB0 HBF HKA
  have f3 := HBF2.out.cell 3
  simp at f3
  have HL := Lib.hid (fun n => left_any ok cg b a (W2.drewN n) (HC2.out.drewN n))
  go_upto_region 3 with fail
  by_cases p2 : hi < (b.length : Int)
  ·have q2 : decide (hi < (b.length : Int)) = true := decide_eq_true p2
   go_quiet ((go_at_call 42; exact quiet_left (HL.out _)))
   generalize hW3 : W2.drewN _ = W3
   have hk3 : Kp (fun _ => False) W2 W3 := hW3 ▸ (Kp.refl _ W2).drewN _
   have hc3 := HC2.out.kp hk3 (fun _ _ h => h) (fun h => h)
   have hr3 := HR2.out.kp hk3 (fun h => h)
   have HB3 := Lib.hid (HB2.out.kp hk3 (fun h => h))
   have HBF3 := Lib.hid (HBF2.out.kp hk3 (fun h => h))
   have HK3 := Lib.hid (HK2.out.then_ hk3 (fun _ h => h.elim))
   have hR := HRR2.out
   rw [if_pos p2] at hR
   have HRR3 := Lib.hid hR
   have HAT := Lib.hid (fun W4 (hk4 : Kp (fun _ => False) W3 W4) => at_any ok cg b a W4 (hc3.kp hk4 (fun _ _ h => h) (fun h => h)))
   have HFA := Lib.hid (fun W4 (hk4 : Kp (fun _ => False) W3 W4) => fail_any rg t 0 0 (IntKind.i64.wrap (a + hi)) 6 W4 (hr3.kp hk4 (fun h => h)))
   have HCE := Lib.hid (show ∀ W4, Kp (fun i => i = rg) W3 W4 → W4.cell? ⟨w.heap.size, 3, none⟩ = some (.int .i64 hi) from fun W4 hk4 => ((HBF3.out.kp hk4 (by omega)).cell 3).trans rfl)
   have HKR := Lib.hid (Kp.refl (fun i => i = rg) W3)
   have HKF := Lib.hid (Kp.refl (fun _ => False) W3)
   have HW := Lib.hid (show IntKind.i64.wrap (a + hi) = a + hi from IntWalk.i64_in _ (by omega))
   clear hk3 hW3 HL f3 p2 hR HC2 HR2 HB2 HBF2 HRR2 hr3 hc3
   go_upto_region 4 with fail
   go_region_held3 (fun w' => (w').cell? ⟨w.heap.size, 3, none⟩ = some (.int .i64 hi)) (first | exact HCE.out _ HKR.out | exact HCE.out _ HKR.out.drew) (first | (go_at_call 43; refine (HAT.out _ ?_).mono ?_; (first | exact HKF.out | exact HKF.out.drew); rintro e w5 ⟨rfl, rfl⟩) | (go_at_call 58; refine (HFA.out _ ?_).mono ?_; (first | exact HKF.out | exact HKF.out.drew); rintro e w5 ⟨⟨v2, rfl⟩, hr5, hk5⟩; have hq := Kp.then_ (a := W3) (S := fun i => i = rg) (by first | exact HKR.out | exact HKR.out.drew) hk5 (fun i h => .inl h); clear HKR; have HKR := Lib.hid hq; have HR5 := Lib.hid hr5; clear hk5 hq hr5))
   have hr5 := HR5.out
   rw [HW.out] at hr5
   have hb5 := HB3.out.kp HKR.out (by omega)
   have z0 := hb5.frozen 0
   have z1 := hb5.frozen 1
   have z2 := hb5.frozen 2
   have y0 := hb5.cell 0
   have y1 := hb5.cell 1
   have y2 := hb5.cell 2
   simp at y0 y1 y2
   have e2 := Blk.cell hr5 2
   simp at e2
   have HX := Lib.hid (HZ.out w5 hi 6 (by omega) ((HK3.out.mono (fun _ _ h => h.elim)).then_ HKR.out (fun i hi => .inl (.inl hi))) hr5 HRR3.out)
   clear hb5 hr5 HR5
   go_wp2_with fail
   exact bodyPost_ret (v := .agg #[.int .u64 0, .slice none 0 0, .slice none 0 0]) (by simp [results, Tryd.results106, go_sem, y0, y1, y2]) rfl HX.out
  ·have q2 : decide (hi < (b.length : Int)) = false := decide_eq_false p2
   go_quiet ((go_at_call 42; exact quiet_left (HL.out _)))
   generalize hW3 : W2.drewN _ = W3
   have hk3 : Kp (fun _ => False) W2 W3 := hW3 ▸ (Kp.refl _ W2).drewN _
   have hc3 := HC2.out.kp hk3 (fun _ _ h => h) (fun h => h)
   have hr3 := HR2.out.kp hk3 (fun h => h)
   have HB3 := Lib.hid (HB2.out.kp hk3 (fun h => h))
   have HK3 := Lib.hid (HK2.out.then_ hk3 (fun _ h => h.elim))
   have hz3 := hk3.size
   have hR := HRR2.out
   rw [if_neg p2] at hR
   have HRR3 := Lib.hid hR
   have HL3 := Lib.hid (left_any ok cg b a W3 hc3)
   have hzz := HK3.out.size
   have hnx : nx b (b.length : Int) = (b, 0) := by
    rw [nx_ok (by omega) (by omega)]
    simp
   have HY := Lib.hid (bytes_any' ok rg cg t b a b.length W3 b 0 hnx hr3 hc3 hoc hrc (fun i hi => by have := hokl i hi; omega) hl ha hal)
   have e2 := Blk.cell hr3 2
   simp at e2
   clear hk3 hW3 HL f3 p2 hR HC2 HR2 HB2 HBF2 HRR2 hr3 hc3 hnx HZ
   go_wp2_with (go_at_call 42; refine HL3.out.mono ?_; rintro e w3 ⟨rfl, rfl⟩)
   refine HY.out.mono ?_
   rintro e w4 ⟨A5, c5, rfl, hv2, hk2, hq1, _⟩
   have hb2 := HB3.out.kp hk2 (by unfold S2; omega)
   have z0 := hb2.frozen 0
   have z1 := hb2.frozen 1
   have z2 := hb2.frozen 2
   have y0 := hb2.cell 0
   have y1 := hb2.cell 1
   have y2 := hb2.cell 2
   simp at y0 y1 y2
   have HV2 := Lib.hid hv2
   have HQ1 := Lib.hid (hq1 (by first | rfl | trivial))
   have HK4 := Lib.hid (show Kp (S2 rg cg) w w4 from (HK3.out.mono (fun _ _ h => h.elim)).then_ hk2 (fun i hi => .inl hi))
   clear hb2 hq1 hv2 hk2
   go_wp2_with fail
   refine bodyPost_ret (v := .agg #[.int .u64 0, .slice A5 b.length c5, .slice none 0 0]) (by simp [results, Tryd.results106, go_sem, y0, y1, y2]) rfl ?_
   refine form_fin (okn := fun i => w.heap.size + 2 ≤ i) HK4.out (by omega) (HV2.out.mono (fun i hi => by omega)) (fun i hi => by omega) (by omega) (by omega) (fun i hi => by have := hokl i hi; omega) ?_
   rw [HRR3.out]
   refine ⟨rfl, HQ1.out.1, ?_⟩
   have := HQ1.out.2
   rw [List.drop_of_length_le (Nat.le_refl _)] at this
   simpa using this
end Go.Proofs.YtdhnfccgojgehaaDoor

namespace Go.Proofs.YtdhnfccgojgehaaDoor
open Go.RowKit

/-- A tally at block g: the most, how many. -/
def TalB (w : World) (g : Nat) (most q : Int) : Prop := Blk w g 63 #[.int .i64 most, .int .i64 q]
theorem TalB.kp {S : Nat → Prop} {w w' : World} {g : Nat} {m q : Int} (h : TalB w g m q) (hk : Kp S w w') (hg : ¬ S g) : TalB w' g m q := Blk.kp h hk hg

set_option maxRecDepth 100000 in
theorem load_any (g : Nat) (m q : Int) (w : World) (h : TalB w g m q) : Calls Tryd.prog 32 #[.pointer (some ⟨g, 1, none⟩)] w fun e w' => e = .returned (.int .i64 q) ∧ w = w' := by
 have h1 := Blk.cell h 1
 simp at h1
 have hl := run_call_load (P := Tryd.prog) Tryd.func47 (by kernel_rfl) (by kernel_rfl) (by kernel_rfl) .i64 (by kernel_rfl) h1
 clear h
 go_enter Tryd.func32, Tryd.ntmps32
 go_wp2_with fail
 go_ret
 exact ⟨rfl, rfl⟩
set_option maxRecDepth 100000 in
theorem cas_any (g : Nat) (m q y : Int) (w : World) (h : TalB w g m q) : Calls Tryd.prog 72 #[.pointer (some ⟨g, 1, none⟩), .int .i64 q, .int .i64 y] w fun e w' => e = .returned (.bool true) ∧ TalB w' g m y ∧ Kp (· = g) w w' := by
 have h1 := Blk.cell h 1
 simp at h1
 have hf := Blk.frozen h 1
 have hl := run_call_cas_hit (P := Tryd.prog) Tryd.func80 (by kernel_rfl) (by kernel_rfl) (by kernel_rfl) .i64 (by kernel_rfl) (y := y) h1 hf
 have HP := Lib.hid (show TalB (w.setCell ⟨g, 1, none⟩ (.int .i64 y)) g m y ∧ Kp (· = g) w (w.setCell ⟨g, 1, none⟩ (.int .i64 y)) from ⟨Blk.set_ h 1 _, (Kp.refl (· = g) w).setCell (p := ⟨g, 1, none⟩) (.inl rfl) _⟩)
 clear h
 go_enter Tryd.func72, Tryd.ntmps72
 go_wp2_with fail
 go_ret
 exact ⟨rfl, HP.out⟩
set_option maxRecDepth 100000 in
theorem spend_any (g : Nat) (m q : Int) (w : World) (h : TalB w g m q) (h0 : 0 ≤ q) (h1 : q + 1 ≤ m) (h2 : m ≤ 1099511627776) : Calls Tryd.prog 57 #[.pointer (some ⟨g, 0, none⟩), .int .i64 1] w fun e w' => e = .returned (.int .i64 0) ∧ TalB w' g m (q + 1) ∧ Kp (· = g) w w' := by
 have c0 := Blk.cell h 0
 simp at c0
 have HL := Lib.hid (load_any g m q w h)
 have HC := Lib.hid (cas_any g m q (q + 1) w h)
 have hd : decide (m - q < 1) = false := by simp; omega
 clear h
 go_enter Tryd.func57, Tryd.ntmps57
 go_wp2_with fail
 refine wp_loop_rounds 1 ?_
 rw [rounds_succ]
 go_wp2_with (first | (go_at_call 32; refine HL.out.mono ?_; rintro e w2 ⟨rfl, rfl⟩) | (go_at_call 72; refine HC.out.mono ?_; rintro e w2 ⟨rfl, ht, hk⟩))
 go_ret
 exact ⟨rfl, ht, hk⟩
end Go.Proofs.YtdhnfccgojgehaaDoor

namespace Go.Proofs.YtdhnfccgojgehaaDoor
open Go.RowKit

/-- The table lies as the program's text lays it. -/
structure Tab06 (w : World) : Prop where
 c0 : w.cell? ⟨0, 0, none⟩ = some (.func (.func 104) #[] #[])
 c1 : w.cell? ⟨0, 1, none⟩ = some (.func (.func 105) #[] #[])
 c4 : w.cell? ⟨0, 4, none⟩ = some (.func (.func 106) #[] #[])
 c5 : w.cell? ⟨0, 5, none⟩ = some (.func (.func 107) #[] #[])
theorem Tab06.kp {S : Nat → Prop} {w w' : World} (h : Tab06 w) (hk : Kp S w w') (hs : ¬ S 0) : Tab06 w' := ⟨hk.cell h.c0 hs, hk.cell h.c1 hs, hk.cell h.c4 hs, hk.cell h.c5 hs⟩
set_option maxRecDepth 100000 in
theorem tab06 {W : World} (h : laidMetH Tryd.prog [("passepartout/read.kinds", Rows.laid_passepartout_read_kinds)] W) : Tab06 W := by
 have g0 : Tryd.prog.globalNamed "passepartout/read.kinds" = some 0 := by kernel_rfl
 have t0 : (Tryd.prog.globals[0]?).map (·.type) = some 100 := by kernel_rfl
 obtain ⟨g, t, cs, fuel, p, hg, ht, hv, hd⟩ := h.funcs (List.mem_singleton.2 rfl)
 obtain rfl := Option.some.inj (g0.symm.trans hg)
 obtain rfl := Option.some.inj (t0.symm.trans ht)
 obtain ⟨xs, m, e1, e2, e3, hl, hat⟩ := DataW.trod_array Tryd.underlying100 hd
 have e4 : xs.map (·.1) = [.held [40, 42, 112, 97, 115, 115, 101, 112, 97, 114, 116, 111, 117, 116, 47, 114, 101, 97, 100, 46, 114, 101, 97, 100, 101, 114, 41, 46, 110, 117, 109, 98, 101, 114], .held [40, 42, 112, 97, 115, 115, 101, 112, 97, 114, 116, 111, 117, 116, 47, 114, 101, 97, 100, 46, 114, 101, 97, 100, 101, 114, 41, 46, 111, 112, 97, 113, 117, 101], .nil, .nil, .held [40, 42, 112, 97, 115, 115, 101, 112, 97, 114, 116, 111, 117, 116, 47, 114, 101, 97, 100, 46, 114, 101, 97, 100, 101, 114, 41, 46, 114, 101, 115, 116], .held [40, 42, 112, 97, 115, 115, 101, 112, 97, 114, 116, 111, 117, 116, 47, 114, 101, 97, 100, 46, 114, 101, 97, 100, 101, 114, 41, 46, 102, 105, 120, 101, 100]] := by
  have := congrArg Prod.fst e2
  injection this with this
  exact this.symm
 rw [show Tryd.prog.cellsOf 99 = 1 from by kernel_rfl] at hat
 rw [show Tryd.prog.cellsOf 100 = 6 from by kernel_rfl] at e3
 have each : ∀ (i : Nat) (b : UInt8) (r : List UInt8) (f0 : FuncId), i < 6 → (xs.map (·.1))[i]? = some (.held (b :: r)) → ((List.range Tryd.prog.funcs.size).filter fun f => (Tryd.prog.funcs[f]?).any (·.name.toUTF8.data.toList == b :: r)) = [f0] → W.cell? ⟨0, i, none⟩ = some (.func (.func f0) #[] #[]) := by
  intro i b r f0 hi hx hone
  have h1 := hat i hi
  rw [Nat.mul_one] at h1
  have hlt : i < cs.toList.length := by rw [e3]; omega
  rw [List.drop_eq_getElem_cons hlt, List.take_succ_cons, List.take_zero] at h1
  rw [List.getElem?_map] at hx
  obtain ⟨y, hy, hy1⟩ := Option.map_eq_some_iff.1 hx
  rw [hy] at h1
  have h2 : DataW.trod (funcToken Tryd.prog) Tryd.prog W 0 (fun _ => true) true m 99 [cs.toList[i]] = some (.held (b :: r), y.2) := by rw [h1, ← hy1]
  have h3 := func_of_trod Tryd.underlying99 hone h2
  rw [World.var?_cell g0 hv i, ← Array.getElem?_toList, List.getElem?_eq_getElem hlt, h3]
 exact ⟨each 0 _ _ _ (by omega) (by rw [e4]; rfl) (by kernel_rfl), each 1 _ _ _ (by omega) (by rw [e4]; rfl) (by kernel_rfl), each 4 _ _ _ (by omega) (by rw [e4]; rfl) (by kernel_rfl), each 5 _ _ _ (by omega) (by rw [e4]; rfl) (by kernel_rfl)⟩
end Go.Proofs.YtdhnfccgojgehaaDoor

namespace Go.Proofs.YtdhnfccgojgehaaDoor
open Go.RowKit

section
variable {α : Type}
/-- Cells that read as a list of trees, one behind the other. -/
def TRl (H : Head α) (n : Nat) (w : World) (ok : Nat → Prop) : List (RT α) → List Value → Prop
 | [], xs => xs = []
 | t :: l, xs => ∃ cs rest, xs = cs ++ rest ∧ cs.length = n ∧ (∀ u ∈ cs, u.oneCell' = true) ∧ TR H n w ok t cs ∧ TRl H n w ok l rest
theorem TRl.len {H : Head α} {n : Nat} {w : World} {ok : Nat → Prop} : ∀ {l : List (RT α)} {xs : List Value}, TRl H n w ok l xs → xs.length = l.length * n
 | [], xs, h => by rw [TRl] at h; simp [h]
 | t :: l, xs, h => by
  rw [TRl] at h
  obtain ⟨cs, rest, rfl, h1, _, _, h2⟩ := h
  rw [List.length_append, h1, TRl.len h2, List.length_cons, Nat.succ_mul]
  omega
theorem TRl.one {H : Head α} {n : Nat} {w : World} {ok : Nat → Prop} : ∀ {l : List (RT α)} {xs : List Value}, TRl H n w ok l xs → ∀ u ∈ xs, u.oneCell' = true
 | [], xs, h => by rw [TRl] at h; simp [h]
 | t :: l, xs, h => by
  rw [TRl] at h
  obtain ⟨cs, rest, rfl, _, h1, _, h2⟩ := h
  intro u hu
  rcases List.mem_append.1 hu with hu | hu
  ·exact h1 u hu
  ·exact TRl.one h2 u hu
theorem TRl.kp_ {H : Head α} (hH : HeadKp H) {n : Nat} {w w' : World} {ok ok' S : Nat → Prop} (hk : Kp S w w') (hd : ∀ i, ok i → ¬ S i) (hm : ∀ i, ok i → ok' i) : ∀ {l : List (RT α)} {xs : List Value}, TRl H n w ok l xs → TRl H n w' ok' l xs
 | [], xs, h => by rw [TRl] at h ⊢; exact h
 | t :: l, xs, h => by
  rw [TRl] at h ⊢
  obtain ⟨cs, rest, rfl, h1, h2, h3, h4⟩ := h
  exact ⟨cs, rest, rfl, h1, h2, TR.kp_ hH hk hd hm t cs h3, TRl.kp_ hH hk hd hm h4⟩
theorem TRl.snoc {H : Head α} {n : Nat} {w : World} {ok : Nat → Prop} {t : RT α} {cs : List Value} (hc : cs.length = n) (h1 : ∀ u ∈ cs, u.oneCell' = true) (ht : TR H n w ok t cs) : ∀ {l : List (RT α)} {xs : List Value}, TRl H n w ok l xs → TRl H n w ok (l ++ [t]) (xs ++ cs)
 | [], xs, h => by
  rw [TRl] at h
  subst h
  rw [List.nil_append, List.nil_append, TRl]
  exact ⟨cs, [], by simp, hc, h1, ht, by rw [TRl]⟩
 | t' :: l, xs, h => by
  rw [TRl] at h
  obtain ⟨cs', rest, rfl, g1, g2, g3, g4⟩ := h
  rw [List.cons_append, TRl]
  exact ⟨cs', rest ++ cs, by rw [List.append_assoc], g1, g2, g3, TRl.snoc hc h1 ht g4⟩
theorem TRl.trs {H : Head α} {n : Nat} {w : World} {ok : Nat → Prop} : ∀ {l : List (RT α)} {xs : List Value} {b off : Nat}, TRl H n w ok l xs → (∀ j u, xs[j]? = some u → w.cell? ⟨b, off + j, none⟩ = some u) → TRs H n w ok l b off
 | [], _, _, _, _, _ => by rw [TRs]; trivial
 | t :: l, xs, b, off, h, hc => by
  rw [TRl] at h
  obtain ⟨cs, rest, rfl, g1, g2, g3, g4⟩ := h
  rw [TRs]
  refine ⟨⟨cs, g3, fun j u hu => hc j u ?_⟩, TRl.trs g4 (fun j u hu => ?_)⟩
  ·rw [List.getElem?_append_left (List.getElem?_eq_some_iff.1 hu).1]
   exact hu
  ·have := hc (n + j) u (by rw [List.getElem?_append_right (by omega), ← hu, g1]; congr 1; omega)
   rw [show off + (n + j) = off + n + j from by omega] at this
   exact this
/-- Where such cells lie, a slice reads as the list. -/
theorem TRl.tl {H : Head α} {n : Nat} {w : World} {ok : Nat → Prop} {l : List (RT α)} {xs : List Value} {A : Option Addr} (h : TRl H n w ok l xs) (hr : Rd w ok n A l.length xs) : TL H n w ok l A := by
 intro h0
 obtain ⟨⟨b, off, sp⟩, rfl, hsp, hb, hc⟩ := hr.2 h0
 obtain rfl : sp = none := hsp
 exact ⟨b, off, rfl, hb, h.trs (fun j u hu => by rw [← add_spot]; exact hc j u hu)⟩
/-- A row of the call's own that reads as these trees: what they lead to lies elsewhere. -/
def OwnT (H : Head α) (n : Nat) (e : TypeId) (w : World) (ok : Nat → Prop) (v : Value) (l : List (RT α)) : Prop := ∃ xs, Own w ok e n v l.length xs ∧ TRl H n w (fun i => ok i ∧ v.ownBlock ≠ some i) l xs
theorem OwnT.nil {H : Head α} {n : Nat} {e : TypeId} {w : World} {ok : Nat → Prop} : OwnT H n e w ok (.slice none 0 0) [] := ⟨[], Own.nil, by rw [TRl]⟩
theorem OwnT.kp_ {H : Head α} (hH : HeadKp H) {n : Nat} {e : TypeId} {w w' : World} {ok S : Nat → Prop} {v : Value} {l : List (RT α)} (h : OwnT H n e w ok v l) (hk : Kp S w w') (hd : ∀ i, ok i → ¬ S i) : OwnT H n e w' ok v l := by
 obtain ⟨xs, h1, h2⟩ := h
 exact ⟨xs, h1.kp hk hd, h2.kp_ hH hk (fun i hi => hd i hi.1) (fun _ h => h)⟩
theorem OwnT.tl {H : Head α} (hH : HeadKp H) {n : Nat} {e : TypeId} {w : World} {ok : Nat → Prop} {A : Option Addr} {c : Nat} {l : List (RT α)} (h : OwnT H n e w ok (.slice A l.length c) l) : l.length ≤ c ∧ TL H n w ok l A := by
 obtain ⟨xs, h1, h2⟩ := h
 obtain ⟨A', c', e', hc⟩ := h1.shape
 injection e' with e1 e2 e3
 subst e1 e3
 exact ⟨hc, (h2.kp_ hH (Kp.refl (fun _ => False) w) (fun _ _ h => h) (ok' := ok) (fun i hi => hi.1)).tl h1.rd⟩
theorem OwnT.shape {H : Head α} {n : Nat} {e : TypeId} {w : World} {ok : Nat → Prop} {v : Value} {l : List (RT α)} (h : OwnT H n e w ok v l) : ∃ A c, v = .slice A l.length c ∧ l.length ≤ c := by
 obtain ⟨xs, h1, h2⟩ := h
 exact h1.shape
theorem OwnT.lt {H : Head α} {n : Nat} {e : TypeId} {w : World} {ok : Nat → Prop} {v : Value} {l : List (RT α)} (h : OwnT H n e w ok v l) {i : Nat} (hi : v.ownBlock = some i) : i < w.heap.size := by
 obtain ⟨xs, h1, h2⟩ := h
 exact h1.lt i hi
end
/-- append of one tree that was laid as a slice of its own, at a step of a region. -/
theorem wp_push {α : Type} {H : Head α} (hH : HeadKp H) (hL : HeadLt H) {P : Program} {w : World} {o : Oper} {a : Act} {K : Act → World → Prop} {Q : Exit → Act → World → Prop} (s x : Operand) (t : TypeId)
  (ho : o.op = .call { callee := .builtin .append, args := #[s, x], argTypes := #[t, t] }) (e : TypeId) (i : TypeInfo) (z : Value) (size bytes : Nat) (ht : P.underlying t = some (.slice e)) (hi : P.info? e = some i) (hz : i.zero = some z)
  (hsize : i.size = size) (hby : i.bytes = bytes) (hzs : z.cells.size = size) (hsz : 0 < size)
  (ok okt : Nat → Prop) (v : Value) (l : List (RT α)) (hs : a.eval s = v) (hown : OwnT H size e w ok v l) (Bx cx : Nat) (hx : a.eval x = .slice (some ⟨Bx, 0, none⟩) 1 cx) (cs : List Value) (hcs : cs.length = size) (hb : Blk w Bx e cs.toArray) (y : RT α) (hy : TR H size w okt y cs) (h1 : ∀ u ∈ cs, u.oneCell' = true)
  (hokt : ∀ i, okt i → ok i ∧ v.ownBlock ≠ some i) (hnew : ∀ i, w.heap.size ≤ i → ok i) (hn : l.length + 1 ≤ 4398046511104) (hby2 : (l.length + 1) * bytes ≤ 140737488355328)
  (h : ∀ v' w', OwnT H size e w' ok v' (l ++ [y]) → Kp (fun i => v.ownBlock = some i) w w' → (v'.ownBlock = v.ownBlock ∨ v'.ownBlock = some w.heap.size) → K (a.put o.dst v') w') : o.wp P a w K Q := by
 obtain ⟨xs, ho1, ho2⟩ := hown
 have hr : Rd w (fun j => j = Bx) size (some ⟨Bx, 0, none⟩) 1 cs := ⟨by omega, fun _ => ⟨_, rfl, rfl, rfl, fun j u hu => by
  rw [add_spot, Nat.zero_add, hb.cell]
  simpa using hu⟩⟩
 refine wp_append_any w s x t ho 0 e i z size bytes ht hi hz hsize hby hzs hsz v l.length xs hs ho1.1 _ (some ⟨Bx, 0, none⟩) 1 cx cs hx hr h1 (by simp only [maxLen]; omega) hby2 (Nat.zero_le _) ?_
 intro v' w' g1 g2 g3
 have hk : Kp (fun j => v.ownBlock = some j) w w' := (Kp.refl _ w).grown g2 (fun j hj => .inl hj)
 have hlt := ho1.lt
 refine h v' w' ⟨xs ++ cs, ⟨by rw [List.length_append, List.length_singleton]; exact g1, fun j hj => ?_⟩, ?_⟩ hk g3
 ·rcases g3 with e1 | e1
  ·exact ho1.2 j (e1 ▸ hj)
  ·rw [e1] at hj
   injection hj with hj
   exact hnew j (by omega)
 ·have hb' : ∀ j, (ok j ∧ v.ownBlock ≠ some j) ∧ j < w.heap.size → ok j ∧ v'.ownBlock ≠ some j := by
   intro j hj
   refine ⟨hj.1.1, fun he => ?_⟩
   rcases g3 with e1 | e1
   ·exact hj.1.2 (e1 ▸ he)
   ·rw [e1] at he
    injection he with he
    omega
  refine TRl.snoc hcs h1 ?_ ?_
  ·exact TR.kp_ hH hk (fun j hj => (hokt j hj.1).2) (fun j hj => hb' j ⟨hokt j hj.1, hj.2⟩) y cs (TR.lt_ hL y cs hy)
  ·have hlist : ∀ {l : List (RT α)} {xs : List Value}, TRl H size w (fun j => ok j ∧ v.ownBlock ≠ some j) l xs → TRl H size w (fun j => (ok j ∧ v.ownBlock ≠ some j) ∧ j < w.heap.size) l xs := by
    intro l
    induction l with
    | nil => intro xs h; rw [TRl] at h ⊢; exact h
    | cons t l ih =>
     intro xs h
     rw [TRl] at h ⊢
     obtain ⟨cs, rest, rfl, g1, g2, g3, g4⟩ := h
     exact ⟨cs, rest, rfl, g1, g2, TR.lt_ hL t cs g3, ih g4⟩
   exact (hlist ho2).kp_ hH hk (fun j hj => hj.1.2) hb'
/-- The same in a region that draws. -/
theorem step_push {α : Type} {H : Head α} (hH : HeadKp H) (hL : HeadLt H) {P : Program} {w : World} {ops : Array Oper} {K : Act → World → Prop} {E : Prop} {o : Oper} {a : Act} {Q : Exit → Act → World → Prop} (hgd : o.guard = none) (s x : Operand) (t : TypeId)
  (ho : o.op = .call { callee := .builtin .append, args := #[s, x], argTypes := #[t, t] }) (e : TypeId) (i : TypeInfo) (z : Value) (size bytes : Nat) (ht : P.underlying t = some (.slice e)) (hi : P.info? e = some i) (hz : i.zero = some z)
  (hsize : i.size = size) (hby : i.bytes = bytes) (hzs : z.cells.size = size) (hsz : 0 < size)
  (ok okt : Nat → Prop) (v : Value) (l : List (RT α)) (hs : a.eval s = v) (hown : OwnT H size e w ok v l) (Bx cx : Nat) (hx : a.eval x = .slice (some ⟨Bx, 0, none⟩) 1 cx) (cs : List Value) (hcs : cs.length = size) (hb : Blk w Bx e cs.toArray) (y : RT α) (hy : TR H size w okt y cs) (h1 : ∀ u ∈ cs, u.oneCell' = true)
  (hokt : ∀ i, okt i → ok i ∧ v.ownBlock ≠ some i) (hnew : ∀ i, w.heap.size ≤ i → ok i) (hn : l.length + 1 ≤ 4398046511104) (hby2 : (l.length + 1) * bytes ≤ 140737488355328)
  (h : ∀ v' w', OwnT H size e w' ok v' (l ++ [y]) → Kp (fun i => v.ownBlock = some i) w w' → (v'.ownBlock = v.ownBlock ∨ v'.ownBlock = some w.heap.size) → K (a.put o.dst v') w') : if Region.wanted o (yielded ops a.tmps) = true then Oper.wp P o a w K Q else E := by
 have hw : Region.wanted o (yielded ops a.tmps) = true := by simp [Region.wanted, hgd]
 rw [if_pos hw]
 exact wp_push hH hL s x t ho e i z size bytes ht hi hz hsize hby hzs hsz ok okt v l hs hown Bx cx hx cs hcs hb y hy h1 hokt hnew hn hby2 h
end Go.Proofs.YtdhnfccgojgehaaDoor

namespace Go.Proofs.YtdhnfccgojgehaaDoor
open Go.RowKit

theorem BR.lt_ {w : World} {ok : Nat → Prop} {v : Value} {l : List UInt8} (h : BR w ok v l) : BR w (fun i => ok i ∧ i < w.heap.size) v l := by
  obtain ⟨A, c, e, hc, hl, hr⟩ := h
  refine ⟨A, c, e, hc, hl, fun h0 => ?_⟩
  obtain ⟨ad, e1, hsp, hb, hcell⟩ := hr h0
  refine ⟨ad, e1, hsp, ⟨hb, ?_⟩, hcell⟩
  have h1 : (bc l)[0]? = some ((bc l)[0]'(by rw [bc_length]; omega)) := List.getElem?_eq_getElem _
  have := cell_lt (hcell 0 _ h1)
  rwa [block_add] at this
theorem VHd_lt : HeadLt VHd := ⟨fun ⟨v, e, h1, h2, h3⟩ => ⟨v, e, h1, h2.lt_, h3⟩⟩

theorem VtR.shape {w : World} {ok : Nat → Prop} {v : Value} {x : Vt} (h : VtR w ok v x) : ∃ A1 c1 A2 c2, v = .agg #[.int .u64 x.a.n, .slice A1 x.a.b.length c1, .slice A2 x.l.length c2] ∧ TR VHd 3 w ok x [.int .u64 x.a.n, .slice A1 x.a.b.length c1, .slice A2 x.l.length c2] := by
  obtain ⟨bv, sv, rfl, h1, ⟨A1, c1, rfl, h2⟩, h3, ⟨A2, c2, rfl, h4, h5, h6⟩⟩ := h
  exact ⟨A1, c1, A2, c2, rfl, (TR_def _ _ _ _ _ _).2 ⟨[.int .u64 x.a.n, .slice A1 x.a.b.length c1], A2, c2, rfl, rfl, ⟨_, rfl, h1, ⟨A1, c1, rfl, h2⟩, h3⟩, h4, h5, h6⟩⟩
/-- How a reading ends. -/
def EndQ (ok : Nat → Prop) (rg cg : Nat) (t : Value) (b : List UInt8) (a : Int) (W : World) (x : Vt) : RdT → Prop
  | .bad o er _ => RdB W rg t (a + o) er ∧ er ≠ 0
  | .got y r _ => x = y ∧ RdB W rg t 0 0 ∧ Cur W ok cg r (a + (b.length - r.length : Nat))
theorem form_end {ok okn S : Nat → Prop} {rg cg : Nat} {t : Value} {b : List UInt8} {a : Int} {w W : World} {R : RdT} {u0 u1 u2 : Value} {x : Vt} {B : Nat} (hK : Kp S w W) (hB : w.heap.size ≤ B) (hv : VtR W okn (.agg #[u0, u1, u2]) x)
    (hokn : ∀ i, okn i → w.heap.size ≤ i ∧ i ≠ B) (hrg : rg ≠ B) (hcg : cg ≠ B) (hok : ∀ i, ok i → i ≠ B) (hR : EndQ ok rg cg t b a W x R) :
    FormP ok S rg cg t b a w R (.returned (.agg #[u0, u1, u2])) (((W.setCell ⟨B, 0, none⟩ u0).setCell ⟨B, 1, none⟩ u1).setCell ⟨B, 2, none⟩ u2) :=
  form_fin hK hB hv hokn hrg hcg hok (by cases R <;> exact hR)
theorem FormP.parts {ok S : Nat → Prop} {rg cg : Nat} {t : Value} {b : List UInt8} {a : Int} {w w' : World} {R : RdT} {e : Ending} (h : FormP ok S rg cg t b a w R e w') : ∃ v x, e = .returned v ∧ VtR w' (w.heap.size ≤ ·) v x ∧ Kp S w w' ∧ EndQ ok rg cg t b a w' x R := by
  obtain ⟨v, x, h1, h2, h3, h4⟩ := h
  refine ⟨v, x, h1, h2, h3, ?_⟩
  cases R <;> exact h4
/-- The tally, if there is one, counted so many. -/
def Tl (w : World) (t : Value) (q : Nat) : Prop := ∀ g, t = .pointer (some ⟨g, 0, none⟩) → TalB w g 1073741824 q
def IsT (t : Value) : Prop := t = .pointer none ∨ ∃ g, t = .pointer (some ⟨g, 0, none⟩)
def S3 (rg cg : Nat) (t : Value) : Nat → Prop := fun i => i = rg ∨ i = cg ∨ t = .pointer (some ⟨i, 0, none⟩)
def FormQ (ok : Nat → Prop) (rg cg : Nat) (t : Value) (b : List UInt8) (a : Int) (q : Nat) (w : World) (R : RdT) (e : Ending) (w' : World) : Prop :=
  FormP ok (S3 rg cg t) rg cg t b a w R e w' ∧ Tl w' t (q + R.steps)
theorem Tl.kp {S : Nat → Prop} {w w' : World} {t : Value} {q : Nat} (h : Tl w t q) (hk : Kp S w w') (hs : ∀ g, t = .pointer (some ⟨g, 0, none⟩) → ¬ S g) : Tl w' t q := fun g hg => (h g hg).kp hk (hs g hg)
/-- What lies where: the reader, the cursor, the tally, and what is read of. -/
structure RdEnv (ok : Nat → Prop) (rg cg : Nat) (t : Value) (b : List UInt8) (a : Int) (w : World) : Prop where
  hor : ¬ ok rg
  hoc : ¬ ok cg
  hot : ∀ g, t = .pointer (some ⟨g, 0, none⟩) → ¬ ok g
  hrc : rg ≠ cg
  htr : ∀ g, t = .pointer (some ⟨g, 0, none⟩) → g ≠ rg
  htc : ∀ g, t = .pointer (some ⟨g, 0, none⟩) → g ≠ cg
  hrl : rg < w.heap.size
  hcl : cg < w.heap.size
  htl : ∀ g, t = .pointer (some ⟨g, 0, none⟩) → g < w.heap.size
  hokl : ∀ i, ok i → i < w.heap.size
  hok0 : ok 0
  hl : b.length ≤ 1000000000
  ha : 0 ≤ a
  hal : a + b.length ≤ 4611686018427387904
theorem RdEnv.ok_S {ok : Nat → Prop} {rg cg : Nat} {t : Value} {b : List UInt8} {a : Int} {w : World} (E : RdEnv ok rg cg t b a w) : ∀ i, ok i → ¬ S3 rg cg t i := by
  intro i hi hs
  rcases hs with rfl | rfl | hs
  · exact E.hor hi
  · exact E.hoc hi
  · exact E.hot i hs hi
theorem RdEnv.new_S {ok : Nat → Prop} {rg cg : Nat} {t : Value} {b : List UInt8} {a : Int} {w : World} (E : RdEnv ok rg cg t b a w) : ∀ i, w.heap.size ≤ i → ¬ S3 rg cg t i := by
  intro i hi hs
  rcases hs with rfl | rfl | hs
  · have := E.hrl; omega
  · have := E.hcl; omega
  · have := E.htl i hs; omega
theorem RdEnv.at_ {ok : Nat → Prop} {rg cg : Nat} {t : Value} {b b' : List UInt8} {a a' : Int} {w w' : World} (E : RdEnv ok rg cg t b a w) (hz : w.heap.size ≤ w'.heap.size) (ha : 0 ≤ a') (hl : b'.length ≤ b.length) (hal : a' + b'.length ≤ 4611686018427387904) : RdEnv ok rg cg t b' a' w' :=
  ⟨E.hor, E.hoc, E.hot, E.hrc, E.htr, E.htc, Nat.lt_of_lt_of_le E.hrl hz, Nat.lt_of_lt_of_le E.hcl hz, fun g hg => Nat.lt_of_lt_of_le (E.htl g hg) hz, fun i hi => Nat.lt_of_lt_of_le (E.hokl i hi) hz, E.hok0, by have := E.hl; omega, ha, hal⟩
/-- The contract of a form that is read. -/
def FormC (ok : Nat → Prop) (rg : Nat) (t : Value) (f : Fm) : Prop :=
  ∀ (cg : Nat) (b : List UInt8) (a : Int) (q : Nat) (v : Value) (w : World), RdEnv ok rg cg t b a w → FmR w ok v f → RdB w rg t 0 0 → Cur w ok cg b a → Tl w t q → (t = .pointer none ∨ q + (readR f b).steps ≤ 1073741824) → Tab06 w →
    Calls Tryd.prog 41 #[.pointer (some ⟨rg, 0, none⟩), .pointer (some ⟨cg, 0, none⟩), v] w (FormQ ok rg cg t b a q w (readR f b))
theorem value_info : (Tryd.prog.info? 31).map (fun i => (i.zero, i.size, i.bytes)) = some (some (.agg #[.int .u64 0, .slice none 0 0, .slice none 0 0]), 3, 56) := by kernel_rfl

theorem FmR.row {w : World} {ok : Nat → Prop} {h : FH} {P : List Fm} {A : Option Addr} {c : Nat} (hv : FmR w ok (fv h A P.length c) (.mk h P)) : FsR w ok (.slice A P.length c) P := by
  obtain ⟨sv, e, _, h2⟩ := hv
  simp only [fv, RT.a, Value.agg.injEq, Array.mk.injEq, List.cons.injEq, and_true, true_and] at e
  subst e
  exact h2
/-- A row's loop: what holds at each round. -/
def RowI (ok : Nat → Prop) (rg cg : Nat) (t : Value) (h : FH) (P : List Fm) (A0 : Option Addr) (c0 : Nat) (b : List UInt8) (a : Int) (q : Nat) (R : RdT) (w : World) (iv : Value) (wr : World) : Prop :=
  ∃ (i : Nat) (acc : List Vt) (v : Value), iv = .int .i64 i ∧ i ≤ P.length ∧ acc.length ≤ i ∧ Kp (S3 rg cg t) w wr ∧ Blk wr w.heap.size 24 #[.int .i64 h.k, .int .i64 h.s, .int .i64 h.lo, .int .i64 h.hi, .int .i64 h.st, .slice A0 P.length c0] ∧
    Blk wr (w.heap.size + 1) 31 #[.int .u64 0, .slice none 0 0, .slice none 0 0] ∧ Blk wr (w.heap.size + 2) 31 #[.int .u64 0, .slice none 0 0, v] ∧ OwnT VHd 3 31 wr (w.heap.size + 3 ≤ ·) v acc ∧ w.heap.size + 3 ≤ wr.heap.size ∧
    ((∃ (b' : List UInt8) (d q' : Nat), readRow (P.drop i) b' d q' acc = R ∧ d + b'.length = b.length ∧ RdB wr rg t 0 0 ∧ Cur wr ok cg b' (a + d) ∧ Tl wr t (q + q') ∧ q' ≤ R.steps) ∨
     (∃ o er s, R = .bad o er s ∧ er ≠ 0 ∧ RdB wr rg t (a + o) er ∧ Tl wr t (q + s)))
theorem row_steps : ∀ (P : List Fm) (b : List UInt8) (d q : Nat) (acc : List Vt), q ≤ (readRow P b d q acc).steps
  | [], b, d, q, acc => by rw [readRow]; exact Nat.le_refl _
  | g :: P, b, d, q, acc => by
    rw [readRow]
    split
    · simp only [RdT.steps]; omega
    · exact Nat.le_trans (by omega) (row_steps P _ _ _ _)
theorem RdT.rest_le {f : Fm} {b : List UInt8} (hz : szF f ≤ 100000) (hc : checkR f = 0) (hb : b.length ≤ 140737488351232) {x : Vt} {r : List UInt8} {s : Nat} (h : readR f b = .got x r s) : r.length ≤ b.length := by
  obtain ⟨u, e, _⟩ := read_got f hz hc b hb x r s h
  rw [e, List.length_append]
  omega

/-- One part more. -/
theorem row_next {ok : Nat → Prop} {rg cg : Nat} {t : Value} {h : FH} {P : List Fm} {A0 : Option Addr} {c0 : Nat} {b : List UInt8} {a : Int} {q : Nat} {R : RdT} {w wr : World} {i : Nat} (hlt : i < P.length) {acc : List Vt} (hacc : acc.length ≤ i) {v : Value} {b' : List UInt8} {d q' : Nat}
    (E : RdEnv ok rg cg t b a w) (hk : Kp (S3 rg cg t) w wr) (hbf : Blk wr w.heap.size 24 #[.int .i64 h.k, .int .i64 h.s, .int .i64 h.lo, .int .i64 h.hi, .int .i64 h.st, .slice A0 P.length c0])
    (hb1 : Blk wr (w.heap.size + 1) 31 #[.int .u64 0, .slice none 0 0, .slice none 0 0]) (hbv : Blk wr (w.heap.size + 2) 31 #[.int .u64 0, .slice none 0 0, v]) (ho : OwnT VHd 3 31 wr (w.heap.size + 3 ≤ ·) v acc) (hzz : w.heap.size + 3 ≤ wr.heap.size)
    (hbl : d + b'.length = b.length) (hms : q' + (readR P[i] b').steps ≤ R.steps)
    (hstep : ∀ y r s2, readR P[i] b' = .got y r s2 → readRow (P.drop (i + 1)) r (d + (b'.length - r.length)) (q' + s2) (acc ++ [y]) = R ∧ r.length ≤ b'.length) (hstep2 : ∀ o er s2, readR P[i] b' = .bad o er s2 → R = .bad (d + o) er (q' + s2))
    {w2 w3 : World} {x : Vt} {v2 : Value} {o : Obj} (hk2 : Kp (S3 rg cg t) wr w2) (hq : EndQ ok rg cg t b' (a + d) w2 x (readR P[i] b')) (ht : Tl w2 t (q + q' + (readR P[i] b').steps))
    (ho3 : OwnT VHd 3 31 w3 (w.heap.size + 3 ≤ ·) v2 (acc ++ [x])) (hk3 : Kp (fun j => v.ownBlock = some j) (w2.alloc o) w3) :
    RowI ok rg cg t h P A0 c0 b a q R w (.int .i64 ((i : Int) + 1)) (w3.setCell ⟨w.heap.size + 2, 2, none⟩ v2) := by
  have e1 := E.hrl
  have e2 := E.hcl
  have hw := hk.size
  have hz2 := hk2.size
  have hvl : ∀ j, v.ownBlock = some j → w.heap.size + 3 ≤ j := fun j hj => by
    obtain ⟨xs, h1, _⟩ := ho
    exact h1.2 j hj
  have hvl2 : ∀ j, v.ownBlock = some j → j < wr.heap.size := fun j hj => ho.lt hj
  have hka : Kp (fun j => v.ownBlock = some j) w2 w3 := ((Kp.refl _ w2).alloc o).then_ hk3 (fun j hj => .inl hj)
  have hks : Kp (fun j => j = w.heap.size + 2) w3 (w3.setCell ⟨w.heap.size + 2, 2, none⟩ v2) := (Kp.refl (fun j => j = w.heap.size + 2) w3).setCell (p := ⟨w.heap.size + 2, 2, none⟩) (.inl rfl) v2
  have hz3 := hka.size
  have nS : ∀ j, w.heap.size ≤ j → ¬ S3 rg cg t j := E.new_S
  have hk4 : Kp (S3 rg cg t) w w3 := (hk.then_ hk2 (fun j hj => .inl hj)).then_ hka (fun j hj => .inr (by have := hvl j hj; omega))
  have g1 : ∀ {T : TypeId} {cs : Array Value} (g : Nat), w.heap.size ≤ g → g < w.heap.size + 2 → Blk wr g T cs → Blk (w3.setCell ⟨w.heap.size + 2, 2, none⟩ v2) g T cs := fun g h1 h2 hb =>
    ((hb.kp hk2 (nS g h1)).kp hka (fun he => by have := hvl g he; omega)).kp hks (by omega)
  have hv3 : Blk w3 (w.heap.size + 2) 31 #[.int .u64 0, .slice none 0 0, v] := (hbv.kp hk2 (nS _ (by omega))).kp hka (fun he => by have := hvl _ he; omega)
  have keepOk : ∀ j, ok j → ¬ v.ownBlock = some j := fun j hj he => by have := E.hokl j hj; have := hvl j he; omega
  refine ⟨i + 1, acc ++ [x], v2, by rfl, by omega, by rw [List.length_append, List.length_singleton]; omega, hk4.then_ hks (fun j hj => .inr (by omega)), g1 _ (by omega) (by omega) hbf, g1 _ (by omega) (by omega) hb1, ?_, ho3.kp_ VHd_kp hks (fun j hj he => by omega), by have := hks.size; omega, ?_⟩
  · have := hv3.set_ 2 v2
    simpa using this
  · have hrg : ∀ {a1 e1 : Int}, RdB w2 rg t a1 e1 → RdB (w3.setCell ⟨w.heap.size + 2, 2, none⟩ v2) rg t a1 e1 := fun h1 => (h1.kp hka (fun he => by have := hvl rg he; omega)).kp hks (by omega)
    have htl : Tl (w3.setCell ⟨w.heap.size + 2, 2, none⟩ v2) t (q + q' + (readR P[i] b').steps) := (ht.kp hka (fun g hg he => by have := E.htl g hg; have := hvl g he; omega)).kp hks (fun g hg he => by have := E.htl g hg; omega)
    cases hg : readR P[i] b' with
    | bad o2 er s2 =>
      rw [hg] at hq htl
      obtain ⟨hq1, hq2⟩ := hq
      refine .inr ⟨d + o2, er, q' + s2, hstep2 o2 er s2 hg, hq2, ?_, ?_⟩
      · have := hrg hq1
        rw [show a + (d : Int) + o2 = a + (d + o2) by omega] at this
        exact this
      · rw [show q + (q' + s2) = q + q' + s2 by omega]
        exact htl
    | got y r s2 =>
      rw [hg] at hq htl hms
      obtain ⟨rfl, hq2, hq3⟩ := hq
      obtain ⟨hs1, hs2⟩ := hstep x r s2 hg
      refine .inl ⟨r, d + (b'.length - r.length), q' + s2, hs1, by omega, hrg hq2, ?_, ?_, hms⟩
      · have := (hq3.kp hka keepOk (fun he => by have := hvl cg he; omega)).kp hks (fun j hj he => by have := E.hokl j hj; omega) (by omega)
        rw [show a + ((d + (b'.length - r.length) : Nat) : Int) = a + (d : Int) + ((b'.length - r.length : Nat) : Int) by omega]
        exact this
      · rw [show q + (q' + s2) = q + q' + s2 by omega]
        exact htl

set_option maxRecDepth 100000 in
set_option maxHeartbeats 3200000 in
theorem row_rd (ok : Nat → Prop) (rg cg : Nat) (t : Value) (h : FH) (P : List Fm) (A0 : Option Addr) (c0 : Nat) (b : List UInt8) (a : Int) (q : Nat) (w : World) (k3 : h.k = 3) (hP : P.length ≤ 32) (hPz : ∀ y ∈ P, szF y ≤ 100000) (hPc : ∀ y ∈ P, checkR y = 0) (ih : ∀ y ∈ P, FormC ok rg t y) (E : RdEnv ok rg cg t b a w)
    (hv : FmR w ok (fv h A0 P.length c0) (.mk h P)) (hr : RdB w rg t 0 0) (hc : Cur w ok cg b a) (ht : Tl w t (q + 1)) (hroom : t = .pointer none ∨ q + (readR (.mk h P) b).steps ≤ 1073741824) (tab : Tab06 w) :
    Calls Tryd.prog 60 #[.pointer (some ⟨rg, 0, none⟩), .pointer (some ⟨cg, 0, none⟩), fv h A0 P.length c0] w (FormQ ok rg cg t b a q w (readR (.mk h P) b)) := by
  have hR : readRow P b 0 1 [] = readR (.mk h P) b := by
    rw [readR_mk, if_neg (by omega), if_neg (by omega), if_neg (by omega), if_neg (by omega), if_pos k3]
  generalize readR (.mk h P) b = R at hR hroom
  obtain ⟨k, s, lo, hi, st⟩ := h
  simp only at k3
  subst k3
  have ka : Kp (fun _ => False) w (((w.alloc (.cells #[.int .i64 3, .int .i64 s, .int .i64 lo, .int .i64 hi, .int .i64 st, .slice A0 P.length c0] 24)).alloc (.cells #[.int .u64 0, .slice none 0 0, .slice none 0 0] 31)).alloc (.cells #[.int .u64 0, .slice none 0 0, .slice none 0 0] 31)) := (((Kp.refl _ w).alloc _).alloc _).alloc _
  have hsz : (((w.alloc (.cells #[.int .i64 3, .int .i64 s, .int .i64 lo, .int .i64 hi, .int .i64 st, .slice A0 P.length c0] 24)).alloc (.cells #[.int .u64 0, .slice none 0 0, .slice none 0 0] 31)).alloc (.cells #[.int .u64 0, .slice none 0 0, .slice none 0 0] 31)).heap.size = w.heap.size + 3 := by rw [World.size_alloc, World.size_alloc, World.size_alloc]
  have hb0 := ((Blk.new w 24 #[.int .i64 3, .int .i64 s, .int .i64 lo, .int .i64 hi, .int .i64 st, .slice A0 P.length c0]).alloc (.cells #[.int .u64 0, .slice none 0 0, .slice none 0 0] 31)).alloc (.cells #[.int .u64 0, .slice none 0 0, .slice none 0 0] 31)
  have hb1 := (Blk.new (w.alloc (.cells #[.int .i64 3, .int .i64 s, .int .i64 lo, .int .i64 hi, .int .i64 st, .slice A0 P.length c0] 24)) 31 #[.int .u64 0, .slice none 0 0, .slice none 0 0]).alloc (.cells #[.int .u64 0, .slice none 0 0, .slice none 0 0] 31)
  have hb2 := Blk.new ((w.alloc (.cells #[.int .i64 3, .int .i64 s, .int .i64 lo, .int .i64 hi, .int .i64 st, .slice A0 P.length c0] 24)).alloc (.cells #[.int .u64 0, .slice none 0 0, .slice none 0 0] 31)) 31 #[.int .u64 0, .slice none 0 0, .slice none 0 0]
  rw [World.size_alloc] at hb1
  rw [World.size_alloc, World.size_alloc] at hb2
  have HI0 := Lib.hid (show RowI ok rg cg t ⟨3, s, lo, hi, st⟩ P A0 c0 b a q R w (.int .i64 0) (((w.alloc (.cells #[.int .i64 3, .int .i64 s, .int .i64 lo, .int .i64 hi, .int .i64 st, .slice A0 P.length c0] 24)).alloc (.cells #[.int .u64 0, .slice none 0 0, .slice none 0 0] 31)).alloc (.cells #[.int .u64 0, .slice none 0 0, .slice none 0 0] 31)) from
    ⟨0, [], .slice none 0 0, rfl, Nat.zero_le _, Nat.zero_le _, ka.mono (fun _ _ h => h.elim), hb0, hb1, hb2, OwnT.nil, by omega, .inl ⟨b, 0, 1, by rw [List.drop_zero]; exact hR, by omega, hr.kp ka (fun h => h), by
      have := hc.kp ka (fun _ _ h => h) (fun h => h)
      simpa using this, ht.kp ka (fun _ _ h => h), by rw [← hR]; exact row_steps _ _ _ _ _⟩⟩)
  have HV := Lib.hid hv
  have HIH := Lib.hid ih
  have HE := Lib.hid E
  have HT := Lib.hid tab
  have HRM := Lib.hid hroom
  clear ka hb0 hb1 hb2 hr hc ht hv ih E tab hroom hsz hR
  go_enter Tryd.func60, Tryd.ntmps60
  go_upto_region 3 with fail
  generalize (((w.alloc (.cells #[.int .i64 3, .int .i64 s, .int .i64 lo, .int .i64 hi, .int .i64 st, .slice A0 P.length c0] 24)).alloc (.cells #[.int .u64 0, .slice none 0 0, .slice none 0 0] 31)).alloc (.cells #[.int .u64 0, .slice none 0 0, .slice none 0 0] 31)) = W0 at HI0 ⊢
  go_loopw [8] (fun iv wr => RowI ok rg cg t ⟨3, s, lo, hi, st⟩ P A0 c0 b a q R w iv wr) (fun iv _ => P.length - (intOf iv).toNat)
  case atStart => exact HI0.out
  case round =>
    clear HI0
    obtain ⟨i, acc, v, rfl, hiq, hacc, hk, hbf, hb1, hbv, ho, hzz, hst⟩ := hrel
    obtain ⟨A, c, rfl, hlc⟩ := ho.shape
    have f5 := hbf.cell 5
    have g0 := hbv.cell 0
    have g1 := hbv.cell 1
    have g2 := hbv.cell 2
    have z0 := hb1.frozen 0
    have z1 := hb1.frozen 1
    have z2 := hb1.frozen 2
    have y0 := hb1.cell 0
    have y1 := hb1.cell 1
    have y2 := hb1.cell 2
    simp at f5 g0 g1 g2 y0 y1 y2
    have HK := Lib.hid hk
    have HBF := Lib.hid hbf
    have HB1 := Lib.hid hb1
    have HBV := Lib.hid hbv
    have HO := Lib.hid ho
    have HX := Lib.hid (show EndQ ok rg cg t b a wr (.mk ⟨0, []⟩ acc) R → Tl wr t (q + R.steps) →
        FormQ ok rg cg t b a q w R (.returned (.agg #[.int .u64 0, .slice none 0 0, .slice A acc.length c])) (((wr.setCell ⟨w.heap.size + 1, 0, none⟩ (.int .u64 0)).setCell ⟨w.heap.size + 1, 1, none⟩ (.slice none 0 0)).setCell ⟨w.heap.size + 1, 2, none⟩ (.slice A acc.length c)) from fun hm htl => by
      have E := HE.out
      have e1 := E.hrl
      have e2 := E.hcl
      obtain ⟨_, htl2⟩ := OwnT.tl VHd_kp HO.out
      refine ⟨form_end (okn := fun i => w.heap.size + 3 ≤ i) (x := .mk ⟨0, []⟩ acc) HK.out (by omega) ⟨_, _, rfl, by unfold u64B; simp only [RT.a]; omega, BR.nil, by simp [RT.a], A, c, rfl, hlc, by simp only [RT.l]; omega, htl2⟩ (fun i hi => by omega) (by omega) (by omega) (fun i hi => by have := E.hokl i hi; omega) hm, ?_⟩
      exact htl.kp ((Kp.refl (fun i => i = w.heap.size + 1) wr).put3 (B := w.heap.size + 1) (.inl rfl) _ _ _) (fun g hg he => by have := E.htl g hg; omega))
    clear hk hbf hb1 hbv ho
    by_cases hlt : i < P.length
    · have hi1 : (i : Int) < (P.length : Int) := by omega
      rcases hst with ⟨b', d, q', hrow, hbl, hr, hc, ht, hqs⟩ | ⟨o, er, s2, hRb, her, hr, ht⟩
      · have e2 := Blk.cell hr 2
        simp at e2
        have e2b : ((0 : Int) == 0) = true := rfl
        have hmem := List.getElem_mem hlt
        have hfs := FsR.kp HV.out.row HK.out HE.out.ok_S
        obtain ⟨b1, off, A2, c2, rfl, hok1, hfm, m0, m1, m2, m3, m4, m5⟩ := hfs.at_ hlt
        have hD : Kp (fun _ => False) wr wr.drew := (Kp.refl _ wr).drew
        have hkD := HK.out.then_ hD (fun _ h => h.elim)
        have E := HE.out
        have E2 : RdEnv ok rg cg t b' (a + d) wr.drew := E.at_ hkD.size (by have := E.ha; omega) (by omega) (by have := E.hal; omega)
        have hstep : ∀ y r s2, readR P[i] b' = .got y r s2 → readRow (P.drop (i + 1)) r (d + (b'.length - r.length)) (q' + s2) (acc ++ [y]) = R ∧ r.length ≤ b'.length := by
          intro y r s2 hg
          rw [readRow_drop hlt, hg] at hrow
          exact ⟨hrow, RdT.rest_le (hPz _ hmem) (hPc _ hmem) (by have := E2.hl; omega) hg⟩
        have hstep2 : ∀ o er s2, readR P[i] b' = .bad o er s2 → R = .bad (d + o) er (q' + s2) := by
          intro o er s2 hg
          rw [readRow_drop hlt, hg] at hrow
          exact hrow.symm
        have hms : q' + (readR P[i] b').steps ≤ R.steps := by
          cases hg : readR P[i] b' with
          | bad o er s2 => rw [hstep2 o er s2 hg]; simp only [RdT.steps]; omega
          | got y r s2 => rw [← (hstep y r s2 hg).1]; simp only [RdT.steps]; exact row_steps _ _ _ _ _
        have HC := Lib.hid (HIH.out _ hmem cg b' (a + d) (q + q') _ wr.drew E2 (hfm.kp hD (fun _ _ h => h)) (hr.kp hD (fun h => h)) (hc.kp hD (fun _ _ h => h) (fun h => h)) (ht.kp hD (fun _ _ h => h)) (HRM.out.imp id (fun h => by omega)) (HT.out.kp hkD (E.ok_S _ E.hok0)))
        have HS1 := Lib.hid hstep
        have HS2 := Lib.hid hstep2
        have HBF2 := Lib.hid (HBF.out.kp hD (fun h => h))
        have HB12 := Lib.hid (HB1.out.kp hD (fun h => h))
        have HBV2 := Lib.hid (HBV.out.kp hD (fun h => h))
        have HO2 := Lib.hid (HO.out.kp_ VHd_kp hD (fun _ _ h => h))
        have HK2 := Lib.hid hkD
        have HZ2 := Lib.hid (show w.heap.size + 3 ≤ wr.drew.heap.size from hzz)
        have e3 : (P.length : Int) > (i : Int) := by omega
        have HBL := Lib.hid hbl
        -- what the loads read holds as long as the form's blocks do
        have hSK : ∀ (T : Nat → Prop) (W : World), Kp T wr W → ¬ T w.heap.size → ¬ T b1 → (fun w' : World => w'.cell? ⟨w.heap.size, 5, none⟩ = some (.slice (some ⟨b1, off, none⟩) P.length c0) ∧ w'.cell? ⟨b1, off + i * 6, none⟩ = some (.int .i64 P[i].a.k) ∧ w'.cell? ⟨b1, off + i * 6 + 1, none⟩ = some (.int .i64 P[i].a.s) ∧ w'.cell? ⟨b1, off + i * 6 + 2, none⟩ = some (.int .i64 P[i].a.lo) ∧ w'.cell? ⟨b1, off + i * 6 + 3, none⟩ = some (.int .i64 P[i].a.hi) ∧ w'.cell? ⟨b1, off + i * 6 + 4, none⟩ = some (.int .i64 P[i].a.st) ∧ w'.cell? ⟨b1, off + i * 6 + 5, none⟩ = some (.slice A2 P[i].l.length c2)) W := fun T W hk h1 h2 =>
          ⟨hk.cell f5 h1, hk.cell m0 h2, hk.cell m1 h2, hk.cell m2 h2, hk.cell m3 h2, hk.cell m4 h2, hk.cell m5 h2⟩
        have hS0 := hSK (fun _ => False) wr.drew hD (fun h => h) (fun h => h)
        have HSK := Lib.hid hSK
        have hob := HO2.out
        have hb1l := E.hokl b1 hok1
        have g2D : wr.drew.cell? ⟨w.heap.size + 2, 2, none⟩ = some (.slice A acc.length c) := g2
        have gfD : wr.drew.frozen? ⟨w.heap.size + 2, 2, none⟩ = false := HBV2.out.frozen 2
        have HE3 := Lib.hid E2
        have HAL := Lib.hid (show acc.length + 1 ≤ 2513169434916 from by omega)
        have HMS := Lib.hid hms
        obtain ⟨i0, hi0, hj0, hj1, hj2⟩ := info_parts value_info
        have HNX := Lib.hid (fun w2 w3 x v2 o => row_next (ok := ok) (rg := rg) (cg := cg) (t := t) (h := ⟨3, s, lo, hi, st⟩) (P := P) (A0 := some ⟨b1, off, none⟩) (c0 := c0) (b := b) (a := a) (q := q) (R := R) (w := w) (wr := wr.drew) hlt hacc E hkD HBF2.out HB12.out HBV2.out hob HZ2.out hbl hms hstep hstep2 (w2 := w2) (w3 := w3) (x := x) (v2 := v2) (o := o))
        clear hD hkD E E2 hstep hstep2 hms hrow hqs hr hc ht hfs hfm hbl HBF HB1 HBV HO HK HX HV z0 z1 z2 y0 y1 y2 hSK hob HS1 HS2
        go_upto_region 5 with fail
        refine wp_region_noPanic ?_
        refine wp_region_held_drew (S := (fun w' : World => w'.cell? ⟨w.heap.size, 5, none⟩ = some (.slice (some ⟨b1, off, none⟩) P.length c0) ∧ w'.cell? ⟨b1, off + i * 6, none⟩ = some (.int .i64 P[i].a.k) ∧ w'.cell? ⟨b1, off + i * 6 + 1, none⟩ = some (.int .i64 P[i].a.s) ∧ w'.cell? ⟨b1, off + i * 6 + 2, none⟩ = some (.int .i64 P[i].a.lo) ∧ w'.cell? ⟨b1, off + i * 6 + 3, none⟩ = some (.int .i64 P[i].a.hi) ∧ w'.cell? ⟨b1, off + i * 6 + 4, none⟩ = some (.int .i64 P[i].a.st) ∧ w'.cell? ⟨b1, off + i * 6 + 5, none⟩ = some (.slice A2 P[i].l.length c2))) (by kernel_rfl) hS0 (fun hHeld => ?_)
        refine wpAnyH_take (i := 0) (v := ?v0) (by simp only [List.getElem?_toArray, List.getElem?_cons_zero]; rfl) (by kernel_rfl) (by kernel_rfl) (by kernel_rfl) (fun _ _ _ h => h) (Or.inl ⟨by rfl, ?hy0⟩) (by assumption) ?rest0
        case hy0 => (intro w hSw; (try dsimp only at hSw); go_simp; (try with_reducible rfl))
        try simp only [Act.put, List.setIfInBounds_toArray, List.set_cons_zero, List.set_cons_succ]
        refine wpAnyH_take (i := 2) (v := ?v2) (by simp only [List.getElem?_toArray, List.getElem?_cons_succ, List.getElem?_cons_zero]; rfl) (by kernel_rfl) (by kernel_rfl) (by kernel_rfl) (fun _ _ _ h => h) (Or.inl ⟨by rfl, ?hy2⟩) (by assumption) ?rest2
        case hy2 => (intro w hSw; (try dsimp only at hSw); go_simp; (try with_reducible rfl))
        try simp only [Act.put, List.setIfInBounds_toArray, List.set_cons_zero, List.set_cons_succ]
        refine wpAnyH_take (i := 3) (v := ?v3) (by simp only [List.getElem?_toArray, List.getElem?_cons_succ, List.getElem?_cons_zero]; rfl) (by kernel_rfl) (by kernel_rfl) (by kernel_rfl) (fun _ _ _ h => h) (Or.inl ⟨by rfl, ?hy3⟩) (by assumption) ?rest3
        case hy3 => (intro w hSw; (try dsimp only at hSw); go_simp; (try with_reducible rfl))
        try simp only [Act.put, List.setIfInBounds_toArray, List.set_cons_zero, List.set_cons_succ]
        refine wpAnyH_take (i := 4) (v := ?v4) (by simp only [List.getElem?_toArray, List.getElem?_cons_succ, List.getElem?_cons_zero]; rfl) (by kernel_rfl) (by kernel_rfl) (by kernel_rfl) (fun _ _ _ h => h) (Or.inl ⟨by rfl, ?hy4⟩) (by assumption) ?rest4
        case hy4 => (intro w hSw; (try dsimp only at hSw); go_simp; (try with_reducible rfl))
        try simp only [Act.put, List.setIfInBounds_toArray, List.set_cons_zero, List.set_cons_succ]
        refine wpAnyH_take (i := 5) (v := ?v5) (by simp only [List.getElem?_toArray, List.getElem?_cons_succ, List.getElem?_cons_zero]; rfl) (by kernel_rfl) (by kernel_rfl) (by kernel_rfl) (fun _ _ _ h => h) (Or.inl ⟨by rfl, ?hy5⟩) (by assumption) ?rest5
        case hy5 => (intro w hSw; (try dsimp only at hSw); go_simp; (try with_reducible rfl))
        try simp only [Act.put, List.setIfInBounds_toArray, List.set_cons_zero, List.set_cons_succ]
        refine wpAnyH_take (i := 6) (v := ?v6) (by simp only [List.getElem?_toArray, List.getElem?_cons_succ, List.getElem?_cons_zero]; rfl) (by kernel_rfl) (by kernel_rfl) (by kernel_rfl) (fun _ _ _ h => h) (Or.inl ⟨by rfl, ?hy6⟩) (by assumption) ?rest6
        case hy6 => (intro w hSw; (try dsimp only at hSw); go_simp; (try with_reducible rfl))
        try simp only [Act.put, List.setIfInBounds_toArray, List.set_cons_zero, List.set_cons_succ]
        refine wpAnyH_take (i := 7) (v := ?v7) (by simp only [List.getElem?_toArray, List.getElem?_cons_succ, List.getElem?_cons_zero]; rfl) (by kernel_rfl) (by kernel_rfl) (by kernel_rfl) (fun _ _ _ h => h) (Or.inl ⟨by rfl, ?hy7⟩) (by assumption) ?rest7
        case hy7 => (intro w hSw; (try dsimp only at hSw); go_simp; (try with_reducible rfl))
        try simp only [Act.put, List.setIfInBounds_toArray, List.set_cons_zero, List.set_cons_succ]
        refine wpAnyH_take (i := 8) (v := ?v8) (by simp only [List.getElem?_toArray, List.getElem?_cons_succ, List.getElem?_cons_zero]; rfl) (by kernel_rfl) (by kernel_rfl) (by kernel_rfl) (fun _ _ _ h => h) (Or.inl ⟨by rfl, ?hy8⟩) (by assumption) ?rest8
        case hy8 => (intro w hSw; (try dsimp only at hSw); go_simp; (try with_reducible rfl))
        try simp only [Act.put, List.setIfInBounds_toArray, List.set_cons_zero, List.set_cons_succ]
        refine wpAnyH_ready (rs := [1, 9]) (by kernel_rfl) (by simp) ?_
        refine (AllReadyH.cons (o := _) rfl (fun K hK => ?_) (AllReadyH.cons (o := _) rfl (fun K hK => ?_) AllReadyH.nil))
        · go_simp
          refine hK.out _ _ (by assumption) (fun hHeld => ?_)
          clear hK K
          refine wpAnyH_ready (rs := [9]) (by kernel_rfl) (by simp) ?_
          refine (AllReadyH.cons (o := _) rfl (fun K hK => ?_) AllReadyH.nil)
          go_simp
          refine HC.out.mono ?_
          rintro e w2 ⟨hfp, htl⟩
          obtain ⟨v3, x, rfl, hvx, hk2, hen⟩ := hfp.parts
          obtain ⟨A5, c5, A6, c6, rfl, htr5⟩ := hvx.shape
          have hS2 := HSK.out (S3 rg cg t) w2 (((Kp.refl (fun _ => False) wr).drew.mono (fun _ _ h => h.elim)).then_ hk2 (fun j hj => .inl hj)) (HE.out.new_S _ (Nat.le_refl _)) (HE.out.ok_S _ hok1)
          have gV2 := hk2.cell g2D (HE.out.new_S _ (Nat.le_add_right _ 2))
          have gF2 := (HBV2.out.kp hk2 (HE.out.new_S _ (Nat.le_add_right _ 2))).frozen 2
          have HQ := Lib.hid (And.intro hk2 (And.intro hen (And.intro htl (And.intro hvx htr5))))
          clear hvx hen htl htr5 hfp
          try dsimp only
          refine hK.out _ _ hS2 (fun hHeld => ?_)
          clear hK K
          refine wpAnyH_ready (rs := [10]) (by kernel_rfl) (by simp) ?_
          refine (AllReadyH.cons (o := _) rfl (fun K hK => ?_) AllReadyH.nil)
          go_simp
          have hS3 := HSK.out (S3 rg cg t) (w2.alloc (.cells #[.int .u64 x.a.n, .slice A5 x.a.b.length c5, .slice A6 x.l.length c6] 31)) ((((Kp.refl (fun _ => False) wr).drew.mono (fun _ _ h => h.elim)).then_ hk2 (fun j hj => .inl hj)).alloc _) (HE.out.new_S _ (Nat.le_refl _)) (HE.out.ok_S _ hok1)
          have gV3 := ((Kp.refl (fun _ => False) w2).alloc (.cells #[.int .u64 x.a.n, .slice A5 x.a.b.length c5, .slice A6 x.l.length c6] 31)).cell gV2 (fun h => h)
          try dsimp only
          refine hK.out _ _ hS3 (fun hHeld => ?_)
          clear hK K
          refine wpAnyH_ready (rs := [11]) (by kernel_rfl) (by simp) ?_
          refine (AllReadyH.cons (o := _) rfl (fun K hK => ?_) AllReadyH.nil)
          refine step_push VHd_kp VHd_lt rfl (.tmp 24) (.tmp 33) _ rfl 31 i0 _ 3 56 Tryd.underlying29 hi0 hj0 hj1 hj2 rfl (by omega) (w.heap.size + 3 ≤ ·) (fun j => wr.drew.heap.size ≤ j) (.slice A acc.length c) acc (by simp [Act.eval]) (HO2.out.kp_ VHd_kp (HQ.out.1.alloc _) (fun j hj => HE.out.new_S j (by omega))) w2.heap.size 1 (by simp [Act.eval]) [.int .u64 x.a.n, .slice A5 x.a.b.length c5, .slice A6 x.l.length c6] rfl (Blk.new w2 _ _) x (TR.kp_ VHd_kp ((Kp.refl (fun _ => False) w2).alloc _) (fun _ _ h => h) (fun _ h => h) x _ HQ.out.2.2.2.2) (by intro u hu; simp at hu; rcases hu with rfl | rfl | rfl <;> rfl) (fun j hj => ⟨Nat.le_trans HZ2.out hj, fun he => by have := HO2.out.lt he; omega⟩) (fun j hj => by have := HQ.out.1.size; have := HZ2.out; rw [World.size_alloc] at hj; omega) (by have := HAL.out; omega) (by have := HAL.out; omega) ?_
          intro v4 w3 ho3 hk3 _
          obtain ⟨A4, c4, rfl, _⟩ := ho3.shape
          generalize hal4 : (acc ++ [x]).length = n4 at ho3 ⊢
          have hS4 := HSK.out (fun j => S3 rg cg t j ∨ Value.ownBlock (.slice A acc.length c) = some j) w3 ((((((Kp.refl (fun _ => False) wr).drew.mono (fun _ _ h => h.elim)).then_ HQ.out.1 (fun j hj => .inl (.inl hj))).alloc (.cells #[.int .u64 x.a.n, .slice A5 x.a.b.length c5, .slice A6 x.l.length c6] 31)).then_ hk3 (fun j hj => .inl (.inr hj)))) (fun hh => hh.elim (HE.out.new_S _ (Nat.le_refl _)) (fun he => by obtain ⟨xs9, ho9, _⟩ := HO2.out; have := ho9.2 _ he; omega)) (fun hh => hh.elim (HE.out.ok_S _ hok1) (fun he => by obtain ⟨xs9, ho9, _⟩ := HO2.out; have := ho9.2 _ he; omega))
          have hown9 : ¬ Value.ownBlock (.slice A acc.length c) = some (w.heap.size + 2) := (fun he => by obtain ⟨xs9, ho9, _⟩ := HO2.out; have := ho9.2 _ he; omega)
          have gV4 := hk3.cell gV3 hown9
          have gF4 := (((HBV2.out.kp HQ.out.1 (HE.out.new_S _ (by omega))).alloc _).kp hk3 hown9).frozen 2
          have HQ3 := Lib.hid (HNX.out w2 w3 x (.slice A4 n4 c4) _ HQ.out.1 HQ.out.2.1 HQ.out.2.2.1 ho3 hk3)
          clear ho3 hk3 hown9
          refine hK.out _ _ hS4 (fun hHeld => ?_)
          clear hK K
          refine wpAnyH_ready (rs := [12]) (by kernel_rfl) (by simp) ?_
          refine (AllReadyH.cons (o := _) rfl (fun K hK => ?_) AllReadyH.nil)
          go_simp
          refine hK.out _ _ (by assumption) (fun hHeld => ?_)
          clear hK K
          refine wpAnyH_ready (rs := [13]) (by kernel_rfl) (by simp) ?_
          refine (AllReadyH.cons (o := _) rfl (fun K hK => ?_) AllReadyH.nil)
          go_simp
          have hS5 := (show (fun w' : World => w'.cell? ⟨w.heap.size, 5, none⟩ = some (.slice (some ⟨b1, off, none⟩) P.length c0) ∧ w'.cell? ⟨b1, off + i * 6, none⟩ = some (.int .i64 P[i].a.k) ∧ w'.cell? ⟨b1, off + i * 6 + 1, none⟩ = some (.int .i64 P[i].a.s) ∧ w'.cell? ⟨b1, off + i * 6 + 2, none⟩ = some (.int .i64 P[i].a.lo) ∧ w'.cell? ⟨b1, off + i * 6 + 3, none⟩ = some (.int .i64 P[i].a.hi) ∧ w'.cell? ⟨b1, off + i * 6 + 4, none⟩ = some (.int .i64 P[i].a.st) ∧ w'.cell? ⟨b1, off + i * 6 + 5, none⟩ = some (.slice A2 P[i].l.length c2)) (w3.setCell ⟨w.heap.size + 2, 2, none⟩ (.slice A4 n4 c4)) from by obtain ⟨s1, s2, s3, s4, s5, s6, s7⟩ := hS4; have hks : Kp (fun j => j = w.heap.size + 2) w3 (w3.setCell ⟨w.heap.size + 2, 2, none⟩ (.slice A4 n4 c4)) := (Kp.refl (fun j => j = w.heap.size + 2) w3).setCell (p := ⟨w.heap.size + 2, 2, none⟩) (.inl rfl) _; exact ⟨hks.cell s1 (by show w.heap.size ≠ w.heap.size + 2; omega), hks.cell s2 (by show b1 ≠ _; omega), hks.cell s3 (by show b1 ≠ _; omega), hks.cell s4 (by show b1 ≠ _; omega), hks.cell s5 (by show b1 ≠ _; omega), hks.cell s6 (by show b1 ≠ _; omega), hks.cell s7 (by show b1 ≠ _; omega)⟩)
          try dsimp only
          refine hK.out _ _ hS5 (fun hHeld => ?_)
          clear hK K
          refine wpAnyH_done (by kernel_rfl) ?_ _
          refine NoPanic.normal ?_
          go_wp2_with fail
          go_roundw
          case rel => exact HQ3.out
          case measure => simp [intOf]; omega
        · go_simp
          refine HC.out.mono ?_
          rintro e w2 ⟨hfp, htl⟩
          obtain ⟨v3, x, rfl, hvx, hk2, hen⟩ := hfp.parts
          obtain ⟨A5, c5, A6, c6, rfl, htr5⟩ := hvx.shape
          have hS2 := HSK.out (S3 rg cg t) w2 (((Kp.refl (fun _ => False) wr).drew.mono (fun _ _ h => h.elim)).then_ hk2 (fun j hj => .inl hj)) (HE.out.new_S _ (Nat.le_refl _)) (HE.out.ok_S _ hok1)
          have gV2 := hk2.cell g2D (HE.out.new_S _ (Nat.le_add_right _ 2))
          have gF2 := (HBV2.out.kp hk2 (HE.out.new_S _ (Nat.le_add_right _ 2))).frozen 2
          have HQ := Lib.hid (And.intro hk2 (And.intro hen (And.intro htl (And.intro hvx htr5))))
          clear hvx hen htl htr5 hfp
          try dsimp only
          refine hK.out _ _ hS2 (fun hHeld => ?_)
          clear hK K
          refine wpAnyH_ready (rs := [1, 10]) (by kernel_rfl) (by simp) ?_
          refine (AllReadyH.cons (o := _) rfl (fun K hK => ?_) (AllReadyH.cons (o := _) rfl (fun K hK => ?_) AllReadyH.nil))
          · go_simp
            refine hK.out _ _ (by assumption) (fun hHeld => ?_)
            clear hK K
            refine wpAnyH_ready (rs := [10]) (by kernel_rfl) (by simp) ?_
            refine (AllReadyH.cons (o := _) rfl (fun K hK => ?_) AllReadyH.nil)
            go_simp
            have hS3 := HSK.out (S3 rg cg t) (w2.alloc (.cells #[.int .u64 x.a.n, .slice A5 x.a.b.length c5, .slice A6 x.l.length c6] 31)) ((((Kp.refl (fun _ => False) wr).drew.mono (fun _ _ h => h.elim)).then_ hk2 (fun j hj => .inl hj)).alloc _) (HE.out.new_S _ (Nat.le_refl _)) (HE.out.ok_S _ hok1)
            have gV3 := ((Kp.refl (fun _ => False) w2).alloc (.cells #[.int .u64 x.a.n, .slice A5 x.a.b.length c5, .slice A6 x.l.length c6] 31)).cell gV2 (fun h => h)
            try dsimp only
            refine hK.out _ _ hS3 (fun hHeld => ?_)
            clear hK K
            refine wpAnyH_ready (rs := [11]) (by kernel_rfl) (by simp) ?_
            refine (AllReadyH.cons (o := _) rfl (fun K hK => ?_) AllReadyH.nil)
            refine step_push VHd_kp VHd_lt rfl (.tmp 24) (.tmp 33) _ rfl 31 i0 _ 3 56 Tryd.underlying29 hi0 hj0 hj1 hj2 rfl (by omega) (w.heap.size + 3 ≤ ·) (fun j => wr.drew.heap.size ≤ j) (.slice A acc.length c) acc (by simp [Act.eval]) (HO2.out.kp_ VHd_kp (HQ.out.1.alloc _) (fun j hj => HE.out.new_S j (by omega))) w2.heap.size 1 (by simp [Act.eval]) [.int .u64 x.a.n, .slice A5 x.a.b.length c5, .slice A6 x.l.length c6] rfl (Blk.new w2 _ _) x (TR.kp_ VHd_kp ((Kp.refl (fun _ => False) w2).alloc _) (fun _ _ h => h) (fun _ h => h) x _ HQ.out.2.2.2.2) (by intro u hu; simp at hu; rcases hu with rfl | rfl | rfl <;> rfl) (fun j hj => ⟨Nat.le_trans HZ2.out hj, fun he => by have := HO2.out.lt he; omega⟩) (fun j hj => by have := HQ.out.1.size; have := HZ2.out; rw [World.size_alloc] at hj; omega) (by have := HAL.out; omega) (by have := HAL.out; omega) ?_
            intro v4 w3 ho3 hk3 _
            obtain ⟨A4, c4, rfl, _⟩ := ho3.shape
            generalize hal4 : (acc ++ [x]).length = n4 at ho3 ⊢
            have hS4 := HSK.out (fun j => S3 rg cg t j ∨ Value.ownBlock (.slice A acc.length c) = some j) w3 ((((((Kp.refl (fun _ => False) wr).drew.mono (fun _ _ h => h.elim)).then_ HQ.out.1 (fun j hj => .inl (.inl hj))).alloc (.cells #[.int .u64 x.a.n, .slice A5 x.a.b.length c5, .slice A6 x.l.length c6] 31)).then_ hk3 (fun j hj => .inl (.inr hj)))) (fun hh => hh.elim (HE.out.new_S _ (Nat.le_refl _)) (fun he => by obtain ⟨xs9, ho9, _⟩ := HO2.out; have := ho9.2 _ he; omega)) (fun hh => hh.elim (HE.out.ok_S _ hok1) (fun he => by obtain ⟨xs9, ho9, _⟩ := HO2.out; have := ho9.2 _ he; omega))
            have hown9 : ¬ Value.ownBlock (.slice A acc.length c) = some (w.heap.size + 2) := (fun he => by obtain ⟨xs9, ho9, _⟩ := HO2.out; have := ho9.2 _ he; omega)
            have gV4 := hk3.cell gV3 hown9
            have gF4 := (((HBV2.out.kp HQ.out.1 (HE.out.new_S _ (by omega))).alloc _).kp hk3 hown9).frozen 2
            have HQ3 := Lib.hid (HNX.out w2 w3 x (.slice A4 n4 c4) _ HQ.out.1 HQ.out.2.1 HQ.out.2.2.1 ho3 hk3)
            clear ho3 hk3 hown9
            refine hK.out _ _ hS4 (fun hHeld => ?_)
            clear hK K
            refine wpAnyH_ready (rs := [12]) (by kernel_rfl) (by simp) ?_
            refine (AllReadyH.cons (o := _) rfl (fun K hK => ?_) AllReadyH.nil)
            go_simp
            refine hK.out _ _ (by assumption) (fun hHeld => ?_)
            clear hK K
            refine wpAnyH_ready (rs := [13]) (by kernel_rfl) (by simp) ?_
            refine (AllReadyH.cons (o := _) rfl (fun K hK => ?_) AllReadyH.nil)
            go_simp
            have hS5 := (show (fun w' : World => w'.cell? ⟨w.heap.size, 5, none⟩ = some (.slice (some ⟨b1, off, none⟩) P.length c0) ∧ w'.cell? ⟨b1, off + i * 6, none⟩ = some (.int .i64 P[i].a.k) ∧ w'.cell? ⟨b1, off + i * 6 + 1, none⟩ = some (.int .i64 P[i].a.s) ∧ w'.cell? ⟨b1, off + i * 6 + 2, none⟩ = some (.int .i64 P[i].a.lo) ∧ w'.cell? ⟨b1, off + i * 6 + 3, none⟩ = some (.int .i64 P[i].a.hi) ∧ w'.cell? ⟨b1, off + i * 6 + 4, none⟩ = some (.int .i64 P[i].a.st) ∧ w'.cell? ⟨b1, off + i * 6 + 5, none⟩ = some (.slice A2 P[i].l.length c2)) (w3.setCell ⟨w.heap.size + 2, 2, none⟩ (.slice A4 n4 c4)) from by obtain ⟨s1, s2, s3, s4, s5, s6, s7⟩ := hS4; have hks : Kp (fun j => j = w.heap.size + 2) w3 (w3.setCell ⟨w.heap.size + 2, 2, none⟩ (.slice A4 n4 c4)) := (Kp.refl (fun j => j = w.heap.size + 2) w3).setCell (p := ⟨w.heap.size + 2, 2, none⟩) (.inl rfl) _; exact ⟨hks.cell s1 (by show w.heap.size ≠ w.heap.size + 2; omega), hks.cell s2 (by show b1 ≠ _; omega), hks.cell s3 (by show b1 ≠ _; omega), hks.cell s4 (by show b1 ≠ _; omega), hks.cell s5 (by show b1 ≠ _; omega), hks.cell s6 (by show b1 ≠ _; omega), hks.cell s7 (by show b1 ≠ _; omega)⟩)
            try dsimp only
            refine hK.out _ _ hS5 (fun hHeld => ?_)
            clear hK K
            refine wpAnyH_done (by kernel_rfl) ?_ _
            refine NoPanic.normal ?_
            go_wp2_with fail
            go_roundw
            case rel => exact HQ3.out
            case measure => simp [intOf]; omega
          · go_simp
            have hS3 := HSK.out (S3 rg cg t) (w2.alloc (.cells #[.int .u64 x.a.n, .slice A5 x.a.b.length c5, .slice A6 x.l.length c6] 31)) ((((Kp.refl (fun _ => False) wr).drew.mono (fun _ _ h => h.elim)).then_ hk2 (fun j hj => .inl hj)).alloc _) (HE.out.new_S _ (Nat.le_refl _)) (HE.out.ok_S _ hok1)
            have gV3 := ((Kp.refl (fun _ => False) w2).alloc (.cells #[.int .u64 x.a.n, .slice A5 x.a.b.length c5, .slice A6 x.l.length c6] 31)).cell gV2 (fun h => h)
            try dsimp only
            refine hK.out _ _ hS3 (fun hHeld => ?_)
            clear hK K
            refine wpAnyH_ready (rs := [1]) (by kernel_rfl) (by simp) ?_
            refine (AllReadyH.cons (o := _) rfl (fun K hK => ?_) AllReadyH.nil)
            go_simp
            refine hK.out _ _ (by assumption) (fun hHeld => ?_)
            clear hK K
            refine wpAnyH_ready (rs := [11]) (by kernel_rfl) (by simp) ?_
            refine (AllReadyH.cons (o := _) rfl (fun K hK => ?_) AllReadyH.nil)
            refine step_push VHd_kp VHd_lt rfl (.tmp 24) (.tmp 33) _ rfl 31 i0 _ 3 56 Tryd.underlying29 hi0 hj0 hj1 hj2 rfl (by omega) (w.heap.size + 3 ≤ ·) (fun j => wr.drew.heap.size ≤ j) (.slice A acc.length c) acc (by simp [Act.eval]) (HO2.out.kp_ VHd_kp (HQ.out.1.alloc _) (fun j hj => HE.out.new_S j (by omega))) w2.heap.size 1 (by simp [Act.eval]) [.int .u64 x.a.n, .slice A5 x.a.b.length c5, .slice A6 x.l.length c6] rfl (Blk.new w2 _ _) x (TR.kp_ VHd_kp ((Kp.refl (fun _ => False) w2).alloc _) (fun _ _ h => h) (fun _ h => h) x _ HQ.out.2.2.2.2) (by intro u hu; simp at hu; rcases hu with rfl | rfl | rfl <;> rfl) (fun j hj => ⟨Nat.le_trans HZ2.out hj, fun he => by have := HO2.out.lt he; omega⟩) (fun j hj => by have := HQ.out.1.size; have := HZ2.out; rw [World.size_alloc] at hj; omega) (by have := HAL.out; omega) (by have := HAL.out; omega) ?_
            intro v4 w3 ho3 hk3 _
            obtain ⟨A4, c4, rfl, _⟩ := ho3.shape
            generalize hal4 : (acc ++ [x]).length = n4 at ho3 ⊢
            have hS4 := HSK.out (fun j => S3 rg cg t j ∨ Value.ownBlock (.slice A acc.length c) = some j) w3 ((((((Kp.refl (fun _ => False) wr).drew.mono (fun _ _ h => h.elim)).then_ HQ.out.1 (fun j hj => .inl (.inl hj))).alloc (.cells #[.int .u64 x.a.n, .slice A5 x.a.b.length c5, .slice A6 x.l.length c6] 31)).then_ hk3 (fun j hj => .inl (.inr hj)))) (fun hh => hh.elim (HE.out.new_S _ (Nat.le_refl _)) (fun he => by obtain ⟨xs9, ho9, _⟩ := HO2.out; have := ho9.2 _ he; omega)) (fun hh => hh.elim (HE.out.ok_S _ hok1) (fun he => by obtain ⟨xs9, ho9, _⟩ := HO2.out; have := ho9.2 _ he; omega))
            have hown9 : ¬ Value.ownBlock (.slice A acc.length c) = some (w.heap.size + 2) := (fun he => by obtain ⟨xs9, ho9, _⟩ := HO2.out; have := ho9.2 _ he; omega)
            have gV4 := hk3.cell gV3 hown9
            have gF4 := (((HBV2.out.kp HQ.out.1 (HE.out.new_S _ (by omega))).alloc _).kp hk3 hown9).frozen 2
            have HQ3 := Lib.hid (HNX.out w2 w3 x (.slice A4 n4 c4) _ HQ.out.1 HQ.out.2.1 HQ.out.2.2.1 ho3 hk3)
            clear ho3 hk3 hown9
            refine hK.out _ _ hS4 (fun hHeld => ?_)
            clear hK K
            refine wpAnyH_ready (rs := [12]) (by kernel_rfl) (by simp) ?_
            refine (AllReadyH.cons (o := _) rfl (fun K hK => ?_) AllReadyH.nil)
            go_simp
            refine hK.out _ _ (by assumption) (fun hHeld => ?_)
            clear hK K
            refine wpAnyH_ready (rs := [13]) (by kernel_rfl) (by simp) ?_
            refine (AllReadyH.cons (o := _) rfl (fun K hK => ?_) AllReadyH.nil)
            go_simp
            have hS5 := (show (fun w' : World => w'.cell? ⟨w.heap.size, 5, none⟩ = some (.slice (some ⟨b1, off, none⟩) P.length c0) ∧ w'.cell? ⟨b1, off + i * 6, none⟩ = some (.int .i64 P[i].a.k) ∧ w'.cell? ⟨b1, off + i * 6 + 1, none⟩ = some (.int .i64 P[i].a.s) ∧ w'.cell? ⟨b1, off + i * 6 + 2, none⟩ = some (.int .i64 P[i].a.lo) ∧ w'.cell? ⟨b1, off + i * 6 + 3, none⟩ = some (.int .i64 P[i].a.hi) ∧ w'.cell? ⟨b1, off + i * 6 + 4, none⟩ = some (.int .i64 P[i].a.st) ∧ w'.cell? ⟨b1, off + i * 6 + 5, none⟩ = some (.slice A2 P[i].l.length c2)) (w3.setCell ⟨w.heap.size + 2, 2, none⟩ (.slice A4 n4 c4)) from by obtain ⟨s1, s2, s3, s4, s5, s6, s7⟩ := hS4; have hks : Kp (fun j => j = w.heap.size + 2) w3 (w3.setCell ⟨w.heap.size + 2, 2, none⟩ (.slice A4 n4 c4)) := (Kp.refl (fun j => j = w.heap.size + 2) w3).setCell (p := ⟨w.heap.size + 2, 2, none⟩) (.inl rfl) _; exact ⟨hks.cell s1 (by show w.heap.size ≠ w.heap.size + 2; omega), hks.cell s2 (by show b1 ≠ _; omega), hks.cell s3 (by show b1 ≠ _; omega), hks.cell s4 (by show b1 ≠ _; omega), hks.cell s5 (by show b1 ≠ _; omega), hks.cell s6 (by show b1 ≠ _; omega), hks.cell s7 (by show b1 ≠ _; omega)⟩)
            try dsimp only
            refine hK.out _ _ hS5 (fun hHeld => ?_)
            clear hK K
            refine wpAnyH_done (by kernel_rfl) ?_ _
            refine NoPanic.normal ?_
            go_wp2_with fail
            go_roundw
            case rel => exact HQ3.out
            case measure => simp [intOf]; omega
      · have e2 := Blk.cell hr 2
        simp at e2
        have e2b : (er == 0) = false := by simpa using her
        have HF := Lib.hid (HX.out (by rw [hRb]; exact ⟨hr, her⟩) (by rw [hRb]; exact ht))
        clear hr ht HX hRb her
        go_wp2_with fail
        exact bodyPost_ret (v := .agg #[.int .u64 0, .slice none 0 0, .slice A acc.length c]) (by simp [results, Tryd.results60, go_sem, y0, y1, y2]) rfl HF.out
    · obtain rfl : i = P.length := by omega
      have hF : (FormQ ok rg cg t b a q w R (.returned (.agg #[.int .u64 0, .slice none 0 0, .slice A acc.length c])) (((wr.setCell ⟨w.heap.size + 1, 0, none⟩ (.int .u64 0)).setCell ⟨w.heap.size + 1, 1, none⟩ (.slice none 0 0)).setCell ⟨w.heap.size + 1, 2, none⟩ (.slice A acc.length c))) := by
        rcases hst with ⟨b', d, q', hrow, hbl, hr, hc, ht, hqs⟩ | ⟨o, er, s2, hRb, her, hr, ht⟩
        · rw [readRow_end (Nat.le_refl _)] at hrow
          refine HX.out ?_ ?_
          · rw [← hrow]
            refine ⟨rfl, hr, ?_⟩
            rw [show b.length - b'.length = d by omega]
            exact hc
          · rw [← hrow]
            exact ht
        · exact HX.out (by rw [hRb]; exact ⟨hr, her⟩) (by rw [hRb]; exact ht)
      have HF := Lib.hid hF
      clear hF
      clear hst HX
      go_wp2_with fail
      exact bodyPost_ret (v := .agg #[.int .u64 0, .slice none 0 0, .slice A acc.length c]) (by simp [results, Tryd.results60, go_sem, y0, y1, y2]) rfl HF.out
end Go.Proofs.YtdhnfccgojgehaaDoor
