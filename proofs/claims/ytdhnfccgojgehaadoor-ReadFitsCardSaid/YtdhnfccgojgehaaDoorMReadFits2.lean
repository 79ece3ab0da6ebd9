/-
  Texts for the law ReadFits: part 2.
-/
import Derived.BigQuiet
import Derived.Deep.QuietTactic
import Derived.Test.YtdhnfccgojgehaaDoorProg
import Derived.Maps.OwnSet
import Derived.Maps.OwnOps
import Derived.Laws.EntriesVeiled
import Derived.Test.YtdhnfccgojgehaaDoorMReadFits1

set_option linter.unusedVariables false
set_option linter.unusedSimpArgs false
namespace Go.Proofs.YtdhnfccgojgehaaDoor.QP
open Go.RowKit Go.Proofs.YtdhnfccgojgehaaDoorW.PrintWords Go.Proofs.YtdhnfccgojgehaaDoorW.PrintLast Go.Proofs.YtdhnfccgojgehaaDoorW.PrintMore
attribute [local go_sem] max2_int min2_int max_two min_two max_three min_three max_four min_four   -- for this text's walks alone
set_option linter.unusedVariables false
set_option linter.unusedSimpArgs false

/-! ### passepartoutref04_Count: function 22 -/
mutual
def passepartoutref04_Count.l0 : Nat → Int → Int → List (S24) → Int → Option (Int)
 | 0, _, _, _, _ => none
 | k + 1, x1, x5, x6, x7 => if x7 < (x6.length : Int) then (if x5 ≤ x1 then (if 0 ≤ x7 then ((passepartoutref04_Count.f k ((rd_T24 x6 x7).f0) ((rd_T24 x6 x7).f1) ((rd_T24 x6 x7).f2) ((rd_T24 x6 x7).f3) ((rd_T24 x6 x7).f4) ((rd_T24 x6 x7).f5) (wrap64 (x1 - x5))).bind fun t157 => (passepartoutref04_Count.l0 k x1 (wrap64 (x5 + t157)) x6 (wrap64 (x7 + 1)))) else (none)) else (some x5)) else (some x5)
def passepartoutref04_Count.f : Nat → Int → Int → Int → Int → Int → List (S24) → Int → Option (Int)
 | 0, _, _, _, _, _, _, _ => none
 | k + 1, a0_0, a0_1, a0_2, a0_3, a0_4, l0_5, a1 => (passepartoutref04_parts.f a0_0 a0_1 a0_2 a0_3 a0_4 l0_5).bind fun t153 => (passepartoutref04_Count.l0 k a1 1 t153 0)
end
theorem passepartoutref04_Count.mono_l : ∀ k, (∀ y0 y1 y2 y3 y4 y5 y6, LeO (passepartoutref04_Count.f k y0 y1 y2 y3 y4 y5 y6) (passepartoutref04_Count.f (k + 1) y0 y1 y2 y3 y4 y5 y6)) ∧ (∀ y0 y1 y2 y3, LeO (passepartoutref04_Count.l0 k y0 y1 y2 y3) (passepartoutref04_Count.l0 (k + 1) y0 y1 y2 y3))
 | 0 => ⟨fun _ _ _ _ _ _ _ r h => by simp [passepartoutref04_Count.f] at h, fun _ _ _ _ r h => by simp [passepartoutref04_Count.l0] at h⟩
 | k + 1 => by
  obtain ⟨ih0, ih1⟩ := passepartoutref04_Count.mono_l k
  refine ⟨?_, ?_⟩
  ·intro y0 y1 y2 y3 y4 y5 y6
   unfold passepartoutref04_Count.f
   repeat' first
   | (with_reducible exact ih0 _ _ _ _ _ _ _)
   | (with_reducible exact ih1 _ _ _ _)
   | (with_reducible exact LeO.refl _)
   | (with_reducible exact LeO.none _)
   | (with_reducible refine LeO.ite ?_ ?_)
   | (with_reducible refine LeO.bind ?_ (fun _ => ?_))
   | exact ih0 _ _ _ _ _ _ _
   | exact ih1 _ _ _ _
   | exact LeO.none _
   | refine LeO.ite ?_ ?_
   | refine LeO.bind ?_ (fun _ => ?_)
  ·intro y0 y1 y2 y3
   unfold passepartoutref04_Count.l0
   repeat' first
   | (with_reducible exact ih0 _ _ _ _ _ _ _)
   | (with_reducible exact ih1 _ _ _ _)
   | (with_reducible exact LeO.refl _)
   | (with_reducible exact LeO.none _)
   | (with_reducible refine LeO.ite ?_ ?_)
   | (with_reducible refine LeO.bind ?_ (fun _ => ?_))
   | exact ih0 _ _ _ _ _ _ _
   | exact ih1 _ _ _ _
   | exact LeO.none _
   | refine LeO.ite ?_ ?_
   | refine LeO.bind ?_ (fun _ => ?_)
theorem passepartoutref04_Count.mono : ∀ a0 a1 a2 a3 a4 a5 a6 k, LeO (passepartoutref04_Count.f k a0 a1 a2 a3 a4 a5 a6) (passepartoutref04_Count.f (k + 1) a0 a1 a2 a3 a4 a5 a6) := by
 intro a0 a1 a2 a3 a4 a5 a6 k
 obtain ⟨ih0, ih1⟩ := passepartoutref04_Count.mono_l k
 exact ih0 a0 a1 a2 a3 a4 a5 a6
set_option maxHeartbeats 8000000 in
set_option maxRecDepth 100000 in
theorem passepartoutref04_Count.calls (k : Nat) : ∀ (a0_0 : Int) (a0_1 : Int) (a0_2 : Int) (a0_3 : Int) (a0_4 : Int) (A0_5 : Option Addr) (c0_5 : Nat) (l0_5 : List (S24)) (a1 : Int) (r : Int) (w : World) (hr0_5 : Kd.C k24 w A0_5 l0_5.length l0_5) (hc0_5 : l0_5.length ≤ c0_5) (h : passepartoutref04_Count.f k a0_0 a0_1 a0_2 a0_3 a0_4 l0_5 a1 = some r),
  Calls Tryd.prog 22 #[.agg #[.int .i64 a0_0, .int .i64 a0_1, .int .i64 a0_2, .int .i64 a0_3, .int .i64 a0_4, .slice A0_5 l0_5.length c0_5], .int .i64 a1] w fun e w' => e = .returned (.int .i64 r) ∧ Below w.heap.size w w' := by
 induction k using Nat.strongRecOn with
 | _ k ih =>
 intro a0_0 a0_1 a0_2 a0_3 a0_4 A0_5 c0_5 l0_5 a1 r w hr0_5 hc0_5 h
 cases k with
 | zero => exact absurd h (by simp [passepartoutref04_Count.f])
 | succ k =>
 simp only [passepartoutref04_Count.f] at h
 have hu24 := Tryd.underlying24
 have HR0_5 := Aside0.mk hr0_5
 have HC0_5 := Aside0.mk hc0_5
 clear hr0_5 hc0_5
 have HB := Aside0.mk (Below.refl w.heap.size w)
 have H : ((passepartoutref04_parts.f a0_0 a0_1 a0_2 a0_3 a0_4 l0_5).bind fun t153 => (passepartoutref04_Count.l0 k a1 1 t153 0)) = some r := h
 clear h
 replace H := Option.bind_eq_some_iff.mp H
 obtain ⟨t153, A30, H⟩ := H
 replace H : (passepartoutref04_Count.l0 k a1 1 t153 0) = some r := H
 have A3 := Aside0.mk A30
 clear A30
 have H' := Aside0.mk H
 clear H
 go_enter Tryd.func22, Tryd.ntmps22
 go_wp2_with (first | ((with_reducible refine gate_dst (N := 2) rfl ?_); refine box_event ?hg (N := 2) ?hd (cs := #[.int .i64 a0_0, .int .i64 a0_1, .int .i64 a0_2, .int .i64 a0_3, .int .i64 a0_4, .slice A0_5 l0_5.length c0_5]) (t := 24) ?hr ?_; (case hd => rfl); (case hg => rfl); (case hr => first | (go_simp; done) | (go_simp; rfl)); intro gb152 hg w4 hbox hb; have n0_ := Aside0.mk (below_step (by repeat (first | (with_reducible first | exact HB.out | apply below_alloc | apply pw_below_drewN | apply below_drew1) | exact HB.out)) hb); have n1_ := Aside0.mk (hbox); have n2_ := Aside0.mk ((by rw [hg]; exact (below_size (by repeat (first | (with_reducible first | exact HB.out | apply below_alloc | apply pw_below_drewN | apply below_drew1) | exact HB.out))) : w.heap.size ≤ gb152)); have n3_ := Aside0.mk ((by rw [hg]; exact (below_size (by repeat (first | (with_reducible first | exact HB.out | apply below_alloc | apply pw_below_drewN | apply below_drew1) | exact HB.out))) : w.heap.size ≤ gb152)); clear HB; have HB := n0_; have BK152 := n1_; have GW152 := n2_; have GE152 := n3_; clear n0_ n1_ n2_ n3_; clear hb hbox hg; have hcz5_0 : w4.cell? ⟨gb152, 0, none⟩ = some (.int .i64 a0_0) := (blk_cell BK152.out 0).trans rfl; have hcz5_1 : w4.cell? ⟨gb152, 1, none⟩ = some (.int .i64 a0_1) := (blk_cell BK152.out 1).trans rfl; have hcz5_2 : w4.cell? ⟨gb152, 2, none⟩ = some (.int .i64 a0_2) := (blk_cell BK152.out 2).trans rfl; have hcz5_3 : w4.cell? ⟨gb152, 3, none⟩ = some (.int .i64 a0_3) := (blk_cell BK152.out 3).trans rfl; have hcz5_4 : w4.cell? ⟨gb152, 4, none⟩ = some (.int .i64 a0_4) := (blk_cell BK152.out 4).trans rfl; have hcz5_5 : w4.cell? ⟨gb152, 5, none⟩ = some (.slice A0_5 l0_5.length c0_5) := (blk_cell BK152.out 5).trans rfl; have hfz5_0 := blk_frozen BK152.out 0; have hfz5_1 := blk_frozen BK152.out 1; have hfz5_2 := blk_frozen BK152.out 2; have hfz5_3 := blk_frozen BK152.out 3; have hfz5_4 := blk_frozen BK152.out 4; have hfz5_5 := blk_frozen BK152.out 5) | ((with_reducible refine gate_callee (f := 31) rfl ?_); refine goesL_ (some 9) rfl rfl Tryd.func31 (by kernel_rfl) rfl #[.agg #[.int .i64 a0_0, .int .i64 a0_1, .int .i64 a0_2, .int .i64 a0_3, .int .i64 a0_4, .slice A0_5 l0_5.length c0_5]] rfl (by (try simp only [List.map_toArray, List.map_cons, List.map_nil]); first | done | rfl | (simp only [List.length_drop, List.length_take]; rfl)) ?_; (with_reducible refine (passepartoutref04_parts.calls a0_0 a0_1 a0_2 a0_3 a0_4 (fun k_ => k_ < w.heap.size) _ _ l0_5 t153 _ ?side1 A3.out).mono ?_); (case side1 => exact Kd.V_mk HC0_5.out (Kd.F_below (Kd.C_F k24_heap HR0_5.out) (by repeat (first | (with_reducible first | exact HB.out | apply below_alloc | apply pw_below_drewN | apply below_drew1 | refine below_set ?_ GE152.out) | exact HB.out)))); rintro e w6 ⟨v154, rfl, ho0, hb⟩; refine ⟨_, rfl, ?_⟩; have n0_ := Aside0.mk (Kd.V_lower (Kd.V_mono (ok' := fun k_ => k_ ≠ gb152) ho0 (fun k_ hk_ => Or.elim hk_ (fun hs_ => fun e_ => Nat.not_le.2 hs_ (by rw [e_]; exact GW152.out)) (fun hn_ => (Kd.freshB (g := gb152) (o := .cells #[.int .i64 a0_0, .int .i64 a0_1, .int .i64 a0_2, .int .i64 a0_3, .int .i64 a0_4, .slice A0_5 l0_5.length c0_5] 24 (0, 0)) (by (with_reducible repeat (first | refine blk_drewN ?_ _ | refine blk_drew ?_ | refine blk_alloc ?_ _)); exact BK152.out) k_ hn_)))) (below_size (by repeat (first | (with_reducible first | exact HB.out | apply below_alloc | apply pw_below_drewN | apply below_drew1 | refine below_set ?_ GE152.out) | exact HB.out)))); have n1_ := Aside0.mk (blk_below (g := gb152) (o := .cells #[.int .i64 a0_0, .int .i64 a0_1, .int .i64 a0_2, .int .i64 a0_3, .int .i64 a0_4, .slice A0_5 l0_5.length c0_5] 24 (0, 0)) (by (with_reducible repeat (first | refine blk_drewN ?_ _ | refine blk_drew ?_ | refine blk_alloc ?_ _)); exact BK152.out) hb); have n2_ := Aside0.mk (below_step (by repeat (first | (with_reducible first | exact HB.out | apply below_alloc | apply pw_below_drewN | apply below_drew1 | refine below_set ?_ GE152.out) | exact HB.out)) hb); clear BK152; clear HB; have HO155 := n0_; have BK152 := n1_; have HB := n2_; clear n0_ n1_ n2_; (try clear hb); (try clear hb2); (try clear hk); (try clear hi); (try clear ho0)))
 go_loopg [5, 7] k (fun kq v5 v7 w' => ∃ (x5_1 : Int) (x7_1 : Int), v5 = .int .i64 x5_1 ∧ v7 = .int .i64 x7_1 ∧ Aside0 (passepartoutref04_Count.l0 kq a1 x5_1 t153 x7_1 = some r) ∧ Aside0 (kq ≤ k) ∧ Aside0 (Kd.V k24 24 w' w.heap.size (fun k_ => k_ ≠ gb152) v154 t153) ∧ Aside0 (w'.heap[gb152]? = some (.cells #[.int .i64 a0_0, .int .i64 a0_1, .int .i64 a0_2, .int .i64 a0_3, .int .i64 a0_4, (.slice A0_5 l0_5.length c0_5)] 24 (0, 0))) ∧ Aside0 (Below w.heap.size w w'))
 case atStart => exact ⟨(1), (0), (by first | rfl | (simp; done) | (simp [*]; done)), (by first | rfl | (simp; done) | (simp [*]; done)), H', ⟨Nat.le_refl _⟩, ⟨by (with_reducible repeat (first | apply Kd.V_alloc | apply Kd.V_drewN | apply Kd.V_drew)); exact HO155.out⟩, ⟨by (with_reducible repeat (first | refine blk_drewN ?_ _ | refine blk_drew ?_ | refine blk_alloc ?_ _)); exact BK152.out⟩, ⟨by repeat (first | (with_reducible first | exact HB.out | apply below_alloc | apply pw_below_drewN | apply below_drew1 | refine below_set ?_ GE152.out) | exact HB.out)⟩⟩
 case round =>
  clear H'
  try clear c2
  try clear p2
  try clear c3
  try clear hcz5_0
  try clear hcz5_1
  try clear hcz5_2
  try clear hcz5_3
  try clear hcz5_4
  try clear hcz5_5
  try clear hfz5_0
  try clear hfz5_1
  try clear hfz5_2
  try clear hfz5_3
  try clear hfz5_4
  try clear hfz5_5
  obtain ⟨x5_1, x7_1, rfl, rfl, HA, HK1, HO_6, BK152, HB⟩ := hrel
  cases gk with
  | zero => exact absurd HA.out (by simp [passepartoutref04_Count.l0])
  | succ k1 =>
   have H := HA.out
   clear HA
   simp only [passepartoutref04_Count.l0] at H
   by_cases c7 : x7_1 < (t153.length : Int)
   ·rw [if_pos c7] at H
    have c7b0 : decide (x7_1 < (t153.length : Int)) = true := decide_eq_true c7
    clear c7
    by_cases c8 : x5_1 ≤ a1
    ·rw [if_pos c8] at H
     have c8b0 : decide (x5_1 ≤ a1) = true := decide_eq_true c8
     clear c8
     by_cases c9 : 0 ≤ x7_1
     ·rw [if_pos c9] at H
      have c9b0 : decide (0 ≤ x7_1) = true := decide_eq_true c9
      clear c9
      replace H := Option.bind_eq_some_iff.mp H
      obtain ⟨t157, A100, H⟩ := H
      replace H : (passepartoutref04_Count.l0 k1 a1 (wrap64 (x5_1 + t157)) t153 (wrap64 (x7_1 + 1))) = some r := H
      have A10 := Aside0.mk A100
      clear A100
      have H' := Aside0.mk H
      clear H
      obtain ⟨Ao11, co11, eo11⟩ := Kd.V_slice HO_6.out
      subst eo11
      have p156 : 0 ≤ (x7_1 : Int) := of_decide_eq_true (by first | (with_reducible assumption) | assumption)
      have q156 : x7_1 < (t153.length : Int) := of_decide_eq_true (by first | (with_reducible assumption) | assumption)
      obtain ⟨ad156, A156_5, c156_5, e156, hx156_0, hx156_1, hx156_2, hx156_3, hx156_4, hx156_5, hl156_5, hi156_5⟩ := at_T24 (Kd.V_reads' HO_6.out).2.2 x7_1 p156 q156
      cases e156
      obtain ⟨ce156, hce156, hMe156, hcc156⟩ := Kd.V_get HO_6.out z24 x7_1 p156 (by first | exact q156 | exact of_decide_eq_true (by first | (with_reducible assumption) | assumption) | (have e_ := (Kd.V_reads' HO_6.out).1; omega))
      obtain ⟨ua156_5, uc156_5, rfl, ul156_5, ge156_5⟩ := k24_openF hMe156
      have hv156_5 := hcc156 5 _ rfl
      rw [add_field _ _ 5 (by omega)] at hv156_5
      replace hv156_5 := Option.some.inj (hv156_5.symm.trans hx156_5)
      injection hv156_5 with hva_ hvn_ hvc_
      rw [hva_] at ge156_5
      rw [hvc_] at ul156_5
      have HL156_5 := Aside0.mk (show Kd.V k24 24 _ w.heap.size _ _ ((rd_T24 t153 x7_1).f5) from Kd.V_mk ul156_5 ge156_5)
      clear hva_ hvn_ hvc_ ge156_5 ul156_5
      clear hcc156 hce156
      have HR156_5 := Aside0.mk hi156_5
      have HC156_5 := Aside0.mk hl156_5
      clear hi156_5 hl156_5
      replace p156 := eq_true p156
      replace q156 := eq_true q156
      go_wp2_with (first | ((with_reducible refine gate_callee (f := 22) rfl ?_); refine goesL_ (some 29) rfl rfl Tryd.func22 (by kernel_rfl) rfl #[.agg #[.int .i64 ((rd_T24 t153 x7_1).f0), .int .i64 ((rd_T24 t153 x7_1).f1), .int .i64 ((rd_T24 t153 x7_1).f2), .int .i64 ((rd_T24 t153 x7_1).f3), .int .i64 ((rd_T24 t153 x7_1).f4), .slice A156_5 ((rd_T24 t153 x7_1).f5).length c156_5], .int .i64 (wrap64 (a1 - x5_1))] rfl (by (try simp only [List.map_toArray, List.map_cons, List.map_nil]); first | done | rfl | (simp only [List.length_drop, List.length_take]; rfl)) ?_; (with_reducible refine (ih k1 (by have := HK1.out; omega) ((rd_T24 t153 x7_1).f0) ((rd_T24 t153 x7_1).f1) ((rd_T24 t153 x7_1).f2) ((rd_T24 t153 x7_1).f3) ((rd_T24 t153 x7_1).f4) _ _ ((rd_T24 t153 x7_1).f5) (wrap64 (a1 - x5_1)) t157 _ ?side1 ?side2 A10.out).mono ?_); (case side1 => repeat (first | exact (by repeat (first | (with_reducible exact HR156_5.out) | (with_reducible refine Kd.C_alloc ?_ _) | (with_reducible refine Kd.C_drewN ?_ _) | (with_reducible refine Kd.C_drew ?_) | exact HR156_5.out)) | (with_reducible refine Kd.C_alloc ?_ _) | (with_reducible refine Kd.C_drewN ?_ _) | (with_reducible refine Kd.C_drew ?_))); (case side2 => exact HC156_5.out); rintro e w12 ⟨rfl, hb⟩; refine ⟨_, rfl, ?_⟩; have n0_ := Aside0.mk (Kd.V_below (by (with_reducible repeat (first | apply Kd.V_alloc | apply Kd.V_drewN | apply Kd.V_drew)); exact HO_6.out) hb); have n1_ := Aside0.mk (Kd.V_below (by (with_reducible repeat (first | apply Kd.V_alloc | apply Kd.V_drewN | apply Kd.V_drew)); exact HL156_5.out) hb); have n2_ := Aside0.mk (blk_below (g := gb152) (o := .cells #[.int .i64 a0_0, .int .i64 a0_1, .int .i64 a0_2, .int .i64 a0_3, .int .i64 a0_4, .slice A0_5 l0_5.length c0_5] 24 (0, 0)) (by (with_reducible repeat (first | refine blk_drewN ?_ _ | refine blk_drew ?_ | refine blk_alloc ?_ _)); exact BK152.out) hb); have n3_ := Aside0.mk (Kd.C_below (by repeat (first | (with_reducible exact HR156_5.out) | (with_reducible refine Kd.C_alloc ?_ _) | (with_reducible refine Kd.C_drewN ?_ _) | (with_reducible refine Kd.C_drew ?_) | exact HR156_5.out)) hb); have n4_ := Aside0.mk (below_step (by repeat (first | (with_reducible first | exact HB.out | apply below_alloc | apply pw_below_drewN | apply below_drew1 | refine below_set ?_ GE152.out) | exact HB.out)) hb); clear HO_6; clear HL156_5; clear BK152; clear HR156_5; clear HB; have HO_6 := n0_; have HL156_5 := n1_; have BK152 := n2_; have HR156_5 := n3_; have HB := n4_; clear n0_ n1_ n2_ n3_ n4_; (try clear hb); (try clear hb2); (try clear hk); (try clear hi)))
      go_roundg k1
      case measure => have := HK1.out; omega
      case rel => exact ⟨(wrap64 (x5_1 + t157)), (wrap64 (x7_1 + 1)), (by first | rfl | (simp; done) | (simp [*]; done)), (by first | rfl | (simp; done) | (simp [*]; done)), H', ⟨by have := HK1.out; omega⟩, ⟨by (with_reducible repeat (first | apply Kd.V_alloc | apply Kd.V_drewN | apply Kd.V_drew)); exact HO_6.out⟩, ⟨by (with_reducible repeat (first | refine blk_drewN ?_ _ | refine blk_drew ?_ | refine blk_alloc ?_ _)); exact BK152.out⟩, ⟨by repeat (first | (with_reducible first | exact HB.out | apply below_alloc | apply pw_below_drewN | apply below_drew1 | refine below_set ?_ GE152.out) | exact HB.out)⟩⟩
     ·rw [if_neg c9] at H
      exact absurd H (by simp)
    ·rw [if_neg c8] at H
     have c8b0 : decide (x5_1 ≤ a1) = false := decide_eq_false c8
     clear c8
     obtain rfl := Option.some.inj H
     obtain ⟨Ao13, co13, eo13⟩ := Kd.V_slice HO_6.out
     subst eo13
     go_wp2
     go_ret
     exact ⟨by first | rfl | (simp [errW_none, errW_some] <;> rfl) | (simp [*, errW_none, errW_some] <;> rfl), by repeat (first | (with_reducible first | exact HB.out | apply below_alloc | apply pw_below_drewN | apply below_drew1 | refine below_set ?_ GE152.out) | exact HB.out)⟩
   ·rw [if_neg c7] at H
    have c7b0 : decide (x7_1 < (t153.length : Int)) = false := decide_eq_false c7
    clear c7
    obtain rfl := Option.some.inj H
    obtain ⟨Ao14, co14, eo14⟩ := Kd.V_slice HO_6.out
    subst eo14
    go_wp2
    go_ret
    exact ⟨by first | rfl | (simp [errW_none, errW_some] <;> rfl) | (simp [*, errW_none, errW_some] <;> rfl), by repeat (first | (with_reducible first | exact HB.out | apply below_alloc | apply pw_below_drewN | apply below_drew1 | refine below_set ?_ GE152.out) | exact HB.out)⟩

end Go.Proofs.YtdhnfccgojgehaaDoor.QP

namespace Go.Proofs.YtdhnfccgojgehaaDoor.QP
open Go.RowKit Go.Proofs.YtdhnfccgojgehaaDoorW.PrintWords Go.Proofs.YtdhnfccgojgehaaDoorW.PrintLast Go.Proofs.YtdhnfccgojgehaaDoorW.PrintMore
attribute [local go_sem] max2_int min2_int max_two min_two max_three min_three max_four min_four   -- for this text's walks alone
set_option linter.unusedVariables false
set_option linter.unusedSimpArgs false

/-! ### passepartoutref04_Depth: function 29 -/
mutual
def passepartoutref04_Depth.l0 : Nat → Int → Int → List (S24) → Int → Option (Int)
 | 0, _, _, _, _ => none
 | k + 1, x1, x5, x6, x7 => if x7 < (x6.length : Int) then (passepartoutref04_Depth.j1 k x1 x5 x6 x7 (decide (x1 > 0))) else (passepartoutref04_Depth.j1 k x1 x5 x6 x7 false)
def passepartoutref04_Depth.j1 : Nat → Int → Int → List (S24) → Int → Bool → Option (Int)
 | 0, _, _, _, _, _ => none
 | k + 1, x1, x5, x6, x7, x18 => if x18 = true then (if 0 ≤ x7 then (if x7 < (x6.length : Int) then ((passepartoutref04_Depth.f k ((rd_T24 x6 x7).f0) ((rd_T24 x6 x7).f1) ((rd_T24 x6 x7).f2) ((rd_T24 x6 x7).f3) ((rd_T24 x6 x7).f4) ((rd_T24 x6 x7).f5) (wrap64 (x1 - 1))).bind fun t112 => (if t112 > x5 then (passepartoutref04_Depth.l0 k x1 t112 x6 (wrap64 (x7 + 1))) else (passepartoutref04_Depth.l0 k x1 x5 x6 (wrap64 (x7 + 1))))) else (none)) else (none)) else (some (wrap64 (x5 + 1)))
def passepartoutref04_Depth.f : Nat → Int → Int → Int → Int → Int → List (S24) → Int → Option (Int)
 | 0, _, _, _, _, _, _, _ => none
 | k + 1, a0_0, a0_1, a0_2, a0_3, a0_4, l0_5, a1 => (passepartoutref04_parts.f a0_0 a0_1 a0_2 a0_3 a0_4 l0_5).bind fun t108 => (passepartoutref04_Depth.l0 k a1 0 t108 0)
end
theorem passepartoutref04_Depth.mono_l : ∀ k, (∀ y0 y1 y2 y3 y4 y5 y6, LeO (passepartoutref04_Depth.f k y0 y1 y2 y3 y4 y5 y6) (passepartoutref04_Depth.f (k + 1) y0 y1 y2 y3 y4 y5 y6)) ∧ (∀ y0 y1 y2 y3, LeO (passepartoutref04_Depth.l0 k y0 y1 y2 y3) (passepartoutref04_Depth.l0 (k + 1) y0 y1 y2 y3)) ∧ (∀ y0 y1 y2 y3 y4, LeO (passepartoutref04_Depth.j1 k y0 y1 y2 y3 y4) (passepartoutref04_Depth.j1 (k + 1) y0 y1 y2 y3 y4))
 | 0 => ⟨fun _ _ _ _ _ _ _ r h => by simp [passepartoutref04_Depth.f] at h, fun _ _ _ _ r h => by simp [passepartoutref04_Depth.l0] at h, fun _ _ _ _ _ r h => by simp [passepartoutref04_Depth.j1] at h⟩
 | k + 1 => by
  obtain ⟨ih0, ih1, ih2⟩ := passepartoutref04_Depth.mono_l k
  refine ⟨?_, ?_, ?_⟩
  ·intro y0 y1 y2 y3 y4 y5 y6
   unfold passepartoutref04_Depth.f
   repeat' first
   | (with_reducible exact ih0 _ _ _ _ _ _ _)
   | (with_reducible exact ih1 _ _ _ _)
   | (with_reducible exact ih2 _ _ _ _ _)
   | (with_reducible exact LeO.refl _)
   | (with_reducible exact LeO.none _)
   | (with_reducible refine LeO.ite ?_ ?_)
   | (with_reducible refine LeO.bind ?_ (fun _ => ?_))
   | exact ih0 _ _ _ _ _ _ _
   | exact ih1 _ _ _ _
   | exact ih2 _ _ _ _ _
   | exact LeO.none _
   | refine LeO.ite ?_ ?_
   | refine LeO.bind ?_ (fun _ => ?_)
  ·intro y0 y1 y2 y3
   unfold passepartoutref04_Depth.l0
   repeat' first
   | (with_reducible exact ih0 _ _ _ _ _ _ _)
   | (with_reducible exact ih1 _ _ _ _)
   | (with_reducible exact ih2 _ _ _ _ _)
   | (with_reducible exact LeO.refl _)
   | (with_reducible exact LeO.none _)
   | (with_reducible refine LeO.ite ?_ ?_)
   | (with_reducible refine LeO.bind ?_ (fun _ => ?_))
   | exact ih0 _ _ _ _ _ _ _
   | exact ih1 _ _ _ _
   | exact ih2 _ _ _ _ _
   | exact LeO.none _
   | refine LeO.ite ?_ ?_
   | refine LeO.bind ?_ (fun _ => ?_)
  ·intro y0 y1 y2 y3 y4
   unfold passepartoutref04_Depth.j1
   repeat' first
   | (with_reducible exact ih0 _ _ _ _ _ _ _)
   | (with_reducible exact ih1 _ _ _ _)
   | (with_reducible exact ih2 _ _ _ _ _)
   | (with_reducible exact LeO.refl _)
   | (with_reducible exact LeO.none _)
   | (with_reducible refine LeO.ite ?_ ?_)
   | (with_reducible refine LeO.bind ?_ (fun _ => ?_))
   | exact ih0 _ _ _ _ _ _ _
   | exact ih1 _ _ _ _
   | exact ih2 _ _ _ _ _
   | exact LeO.none _
   | refine LeO.ite ?_ ?_
   | refine LeO.bind ?_ (fun _ => ?_)
theorem passepartoutref04_Depth.mono : ∀ a0 a1 a2 a3 a4 a5 a6 k, LeO (passepartoutref04_Depth.f k a0 a1 a2 a3 a4 a5 a6) (passepartoutref04_Depth.f (k + 1) a0 a1 a2 a3 a4 a5 a6) := by
 intro a0 a1 a2 a3 a4 a5 a6 k
 obtain ⟨ih0, ih1, ih2⟩ := passepartoutref04_Depth.mono_l k
 exact ih0 a0 a1 a2 a3 a4 a5 a6
set_option maxHeartbeats 8000000 in
set_option maxRecDepth 100000 in
theorem passepartoutref04_Depth.calls (k : Nat) : ∀ (a0_0 : Int) (a0_1 : Int) (a0_2 : Int) (a0_3 : Int) (a0_4 : Int) (A0_5 : Option Addr) (c0_5 : Nat) (l0_5 : List (S24)) (a1 : Int) (r : Int) (w : World) (hr0_5 : Kd.C k24 w A0_5 l0_5.length l0_5) (hc0_5 : l0_5.length ≤ c0_5) (h : passepartoutref04_Depth.f k a0_0 a0_1 a0_2 a0_3 a0_4 l0_5 a1 = some r),
  Calls Tryd.prog 29 #[.agg #[.int .i64 a0_0, .int .i64 a0_1, .int .i64 a0_2, .int .i64 a0_3, .int .i64 a0_4, .slice A0_5 l0_5.length c0_5], .int .i64 a1] w fun e w' => e = .returned (.int .i64 r) ∧ Below w.heap.size w w' := by
 induction k using Nat.strongRecOn with
 | _ k ih =>
 intro a0_0 a0_1 a0_2 a0_3 a0_4 A0_5 c0_5 l0_5 a1 r w hr0_5 hc0_5 h
 cases k with
 | zero => exact absurd h (by simp [passepartoutref04_Depth.f])
 | succ k =>
 simp only [passepartoutref04_Depth.f] at h
 have hu24 := Tryd.underlying24
 have HR0_5 := Aside0.mk hr0_5
 have HC0_5 := Aside0.mk hc0_5
 clear hr0_5 hc0_5
 have HB := Aside0.mk (Below.refl w.heap.size w)
 have H : ((passepartoutref04_parts.f a0_0 a0_1 a0_2 a0_3 a0_4 l0_5).bind fun t108 => (passepartoutref04_Depth.l0 k a1 0 t108 0)) = some r := h
 clear h
 replace H := Option.bind_eq_some_iff.mp H
 obtain ⟨t108, A30, H⟩ := H
 replace H : (passepartoutref04_Depth.l0 k a1 0 t108 0) = some r := H
 have A3 := Aside0.mk A30
 clear A30
 have H' := Aside0.mk H
 clear H
 go_enter Tryd.func29, Tryd.ntmps29
 go_wp2_with (first | ((with_reducible refine gate_dst (N := 2) rfl ?_); refine box_event ?hg (N := 2) ?hd (cs := #[.int .i64 a0_0, .int .i64 a0_1, .int .i64 a0_2, .int .i64 a0_3, .int .i64 a0_4, .slice A0_5 l0_5.length c0_5]) (t := 24) ?hr ?_; (case hd => rfl); (case hg => rfl); (case hr => first | (go_simp; done) | (go_simp; rfl)); intro gb107 hg w4 hbox hb; have n0_ := Aside0.mk (below_step (by repeat (first | (with_reducible first | exact HB.out | apply below_alloc | apply pw_below_drewN | apply below_drew1) | exact HB.out)) hb); have n1_ := Aside0.mk (hbox); have n2_ := Aside0.mk ((by rw [hg]; exact (below_size (by repeat (first | (with_reducible first | exact HB.out | apply below_alloc | apply pw_below_drewN | apply below_drew1) | exact HB.out))) : w.heap.size ≤ gb107)); have n3_ := Aside0.mk ((by rw [hg]; exact (below_size (by repeat (first | (with_reducible first | exact HB.out | apply below_alloc | apply pw_below_drewN | apply below_drew1) | exact HB.out))) : w.heap.size ≤ gb107)); clear HB; have HB := n0_; have BK107 := n1_; have GW107 := n2_; have GE107 := n3_; clear n0_ n1_ n2_ n3_; clear hb hbox hg; have hcz5_0 : w4.cell? ⟨gb107, 0, none⟩ = some (.int .i64 a0_0) := (blk_cell BK107.out 0).trans rfl; have hcz5_1 : w4.cell? ⟨gb107, 1, none⟩ = some (.int .i64 a0_1) := (blk_cell BK107.out 1).trans rfl; have hcz5_2 : w4.cell? ⟨gb107, 2, none⟩ = some (.int .i64 a0_2) := (blk_cell BK107.out 2).trans rfl; have hcz5_3 : w4.cell? ⟨gb107, 3, none⟩ = some (.int .i64 a0_3) := (blk_cell BK107.out 3).trans rfl; have hcz5_4 : w4.cell? ⟨gb107, 4, none⟩ = some (.int .i64 a0_4) := (blk_cell BK107.out 4).trans rfl; have hcz5_5 : w4.cell? ⟨gb107, 5, none⟩ = some (.slice A0_5 l0_5.length c0_5) := (blk_cell BK107.out 5).trans rfl; have hfz5_0 := blk_frozen BK107.out 0; have hfz5_1 := blk_frozen BK107.out 1; have hfz5_2 := blk_frozen BK107.out 2; have hfz5_3 := blk_frozen BK107.out 3; have hfz5_4 := blk_frozen BK107.out 4; have hfz5_5 := blk_frozen BK107.out 5) | ((with_reducible refine gate_callee (f := 31) rfl ?_); refine goesL_ (some 10) rfl rfl Tryd.func31 (by kernel_rfl) rfl #[.agg #[.int .i64 a0_0, .int .i64 a0_1, .int .i64 a0_2, .int .i64 a0_3, .int .i64 a0_4, .slice A0_5 l0_5.length c0_5]] rfl (by (try simp only [List.map_toArray, List.map_cons, List.map_nil]); first | done | rfl | (simp only [List.length_drop, List.length_take]; rfl)) ?_; (with_reducible refine (passepartoutref04_parts.calls a0_0 a0_1 a0_2 a0_3 a0_4 (fun k_ => k_ < w.heap.size) _ _ l0_5 t108 _ ?side1 A3.out).mono ?_); (case side1 => exact Kd.V_mk HC0_5.out (Kd.F_below (Kd.C_F k24_heap HR0_5.out) (by repeat (first | (with_reducible first | exact HB.out | apply below_alloc | apply pw_below_drewN | apply below_drew1 | refine below_set ?_ GE107.out) | exact HB.out)))); rintro e w6 ⟨v109, rfl, ho0, hb⟩; refine ⟨_, rfl, ?_⟩; have n0_ := Aside0.mk (Kd.V_lower (Kd.V_mono (ok' := fun k_ => k_ ≠ gb107) ho0 (fun k_ hk_ => Or.elim hk_ (fun hs_ => fun e_ => Nat.not_le.2 hs_ (by rw [e_]; exact GW107.out)) (fun hn_ => (Kd.freshB (g := gb107) (o := .cells #[.int .i64 a0_0, .int .i64 a0_1, .int .i64 a0_2, .int .i64 a0_3, .int .i64 a0_4, .slice A0_5 l0_5.length c0_5] 24 (0, 0)) (by (with_reducible repeat (first | refine blk_drewN ?_ _ | refine blk_drew ?_ | refine blk_alloc ?_ _)); exact BK107.out) k_ hn_)))) (below_size (by repeat (first | (with_reducible first | exact HB.out | apply below_alloc | apply pw_below_drewN | apply below_drew1 | refine below_set ?_ GE107.out) | exact HB.out)))); have n1_ := Aside0.mk (blk_below (g := gb107) (o := .cells #[.int .i64 a0_0, .int .i64 a0_1, .int .i64 a0_2, .int .i64 a0_3, .int .i64 a0_4, .slice A0_5 l0_5.length c0_5] 24 (0, 0)) (by (with_reducible repeat (first | refine blk_drewN ?_ _ | refine blk_drew ?_ | refine blk_alloc ?_ _)); exact BK107.out) hb); have n2_ := Aside0.mk (below_step (by repeat (first | (with_reducible first | exact HB.out | apply below_alloc | apply pw_below_drewN | apply below_drew1 | refine below_set ?_ GE107.out) | exact HB.out)) hb); clear BK107; clear HB; have HO110 := n0_; have BK107 := n1_; have HB := n2_; clear n0_ n1_ n2_; (try clear hb); (try clear hb2); (try clear hk); (try clear hi); (try clear ho0)))
 go_loopg [5, 7] k (fun kq v5 v7 w' => ∃ (x5_1 : Int) (x7_1 : Int), v5 = .int .i64 x5_1 ∧ v7 = .int .i64 x7_1 ∧ Aside0 (passepartoutref04_Depth.l0 kq a1 x5_1 t108 x7_1 = some r) ∧ Aside0 (kq ≤ k) ∧ Aside0 (Kd.V k24 24 w' w.heap.size (fun k_ => k_ ≠ gb107) v109 t108) ∧ Aside0 (w'.heap[gb107]? = some (.cells #[.int .i64 a0_0, .int .i64 a0_1, .int .i64 a0_2, .int .i64 a0_3, .int .i64 a0_4, (.slice A0_5 l0_5.length c0_5)] 24 (0, 0))) ∧ Aside0 (Below w.heap.size w w'))
 case atStart => exact ⟨(0), (0), (by first | rfl | (simp; done) | (simp [*]; done)), (by first | rfl | (simp; done) | (simp [*]; done)), H', ⟨Nat.le_refl _⟩, ⟨by (with_reducible repeat (first | apply Kd.V_alloc | apply Kd.V_drewN | apply Kd.V_drew)); exact HO110.out⟩, ⟨by (with_reducible repeat (first | refine blk_drewN ?_ _ | refine blk_drew ?_ | refine blk_alloc ?_ _)); exact BK107.out⟩, ⟨by repeat (first | (with_reducible first | exact HB.out | apply below_alloc | apply pw_below_drewN | apply below_drew1 | refine below_set ?_ GE107.out) | exact HB.out)⟩⟩
 case round =>
  clear H'
  try clear c2
  try clear p2
  try clear c3
  try clear hcz5_0
  try clear hcz5_1
  try clear hcz5_2
  try clear hcz5_3
  try clear hcz5_4
  try clear hcz5_5
  try clear hfz5_0
  try clear hfz5_1
  try clear hfz5_2
  try clear hfz5_3
  try clear hfz5_4
  try clear hfz5_5
  obtain ⟨x5_1, x7_1, rfl, rfl, HA, HK1, HO_6, BK107, HB⟩ := hrel
  cases gk with
  | zero => exact absurd HA.out (by simp [passepartoutref04_Depth.l0])
  | succ k1 =>
   have H := HA.out
   clear HA
   simp only [passepartoutref04_Depth.l0] at H
   have HC7 := Aside0.mk H
   clear H
   go_upto_region 4 with (fail)
   go_cut [18] (fun v18 wc => ∃ (kq : Nat) (x18_6 : Bool), v18 = .bool x18_6 ∧ Aside0 (passepartoutref04_Depth.j1 kq a1 x5_1 t108 x7_1 x18_6 = some r) ∧ Aside0 (kq ≤ k1) ∧ Aside0 (Kd.V k24 24 wc w.heap.size (fun k_ => k_ ≠ gb107) v109 t108) ∧ Aside0 (wc.heap[gb107]? = some (.cells #[.int .i64 a0_0, .int .i64 a0_1, .int .i64 a0_2, .int .i64 a0_3, .int .i64 a0_4, (.slice A0_5 l0_5.length c0_5)] 24 (0, 0))) ∧ Aside0 (Below w.heap.size w wc))
   case first =>
    have H := HC7.out
    clear HC7
    by_cases c8 : x7_1 < (t108.length : Int)
    ·rw [if_pos c8] at H
     have c8b0 : decide (x7_1 < (t108.length : Int)) = true := decide_eq_true c8
     clear c8
     (first | rw [c8b0] | (simp only [i64_w, i32_w]; rw [c8b0]) | skip)
     have H' := Aside0.mk H
     clear H
     obtain ⟨Ao9, co9, eo9⟩ := Kd.V_slice HO_6.out
     subst eo9
     go_wp2
     go_meet
     case rel => exact ⟨_, (decide (a1 > 0)), (by first | rfl | (simp; done) | (simp [*]; done)), H', ⟨by have := HK1.out; first | omega | exact Nat.le_refl _⟩, ⟨by (with_reducible repeat (first | apply Kd.V_alloc | apply Kd.V_drewN | apply Kd.V_drew)); exact HO_6.out⟩, ⟨by (with_reducible repeat (first | refine blk_drewN ?_ _ | refine blk_drew ?_ | refine blk_alloc ?_ _)); exact BK107.out⟩, ⟨by repeat (first | (with_reducible first | exact HB.out | apply below_alloc | apply pw_below_drewN | apply below_drew1 | refine below_set ?_ GE107.out) | exact HB.out)⟩⟩
    ·rw [if_neg c8] at H
     have c8b0 : decide (x7_1 < (t108.length : Int)) = false := decide_eq_false c8
     clear c8
     (first | rw [c8b0] | (simp only [i64_w, i32_w]; rw [c8b0]) | skip)
     have H' := Aside0.mk H
     clear H
     obtain ⟨Ao10, co10, eo10⟩ := Kd.V_slice HO_6.out
     subst eo10
     go_wp2
     go_meet
     case rel => exact ⟨_, (false), (by first | rfl | (simp; done) | (simp [*]; done)), H', ⟨by have := HK1.out; first | omega | exact Nat.le_refl _⟩, ⟨by (with_reducible repeat (first | apply Kd.V_alloc | apply Kd.V_drewN | apply Kd.V_drew)); exact HO_6.out⟩, ⟨by (with_reducible repeat (first | refine blk_drewN ?_ _ | refine blk_drew ?_ | refine blk_alloc ?_ _)); exact BK107.out⟩, ⟨by repeat (first | (with_reducible first | exact HB.out | apply below_alloc | apply pw_below_drewN | apply below_drew1 | refine below_set ?_ GE107.out) | exact HB.out)⟩⟩
   case rest =>
    clear HC7
    try clear c2
    try clear p2
    try clear c3
    try clear c8
    try clear c8b0
    try clear hcz5_0
    try clear hcz5_1
    try clear hcz5_2
    try clear hcz5_3
    try clear hcz5_4
    try clear hcz5_5
    try clear hfz5_0
    try clear hfz5_1
    try clear hfz5_2
    try clear hfz5_3
    try clear hfz5_4
    try clear hfz5_5
    try clear p2
    obtain ⟨kq, x18_6, rfl, HA, HJ6, HO_6, BK107, HB⟩ := hcut
    cases kq with
    | zero => exact absurd HA.out (by simp [passepartoutref04_Depth.j1])
    | succ kj6 =>
     have H := HA.out
     clear HA
     simp only [passepartoutref04_Depth.j1] at H
     by_cases c11 : x18_6 = true
     ·subst c11
      have H1 : (if 0 ≤ x7_1 then (if x7_1 < (t108.length : Int) then ((passepartoutref04_Depth.f kj6 ((rd_T24 t108 x7_1).f0) ((rd_T24 t108 x7_1).f1) ((rd_T24 t108 x7_1).f2) ((rd_T24 t108 x7_1).f3) ((rd_T24 t108 x7_1).f4) ((rd_T24 t108 x7_1).f5) (wrap64 (a1 - 1))).bind fun t112 => (if t112 > x5_1 then (passepartoutref04_Depth.l0 kj6 a1 t112 t108 (wrap64 (x7_1 + 1))) else (passepartoutref04_Depth.l0 kj6 a1 x5_1 t108 (wrap64 (x7_1 + 1))))) else (none)) else (none)) = some r := by rw [if_pos rfl] at H; exact H
      clear H
      have H := H1
      clear H1
      by_cases c12 : 0 ≤ x7_1
      ·rw [if_pos c12] at H
       have c12b0 : decide (0 ≤ x7_1) = true := decide_eq_true c12
       clear c12
       by_cases c13 : x7_1 < (t108.length : Int)
       ·rw [if_pos c13] at H
        have c13b0 : decide (x7_1 < (t108.length : Int)) = true := decide_eq_true c13
        clear c13
        replace H := Option.bind_eq_some_iff.mp H
        obtain ⟨t112, A140, H⟩ := H
        replace H : (if t112 > x5_1 then (passepartoutref04_Depth.l0 kj6 a1 t112 t108 (wrap64 (x7_1 + 1))) else (passepartoutref04_Depth.l0 kj6 a1 x5_1 t108 (wrap64 (x7_1 + 1)))) = some r := H
        have A14 := Aside0.mk A140
        clear A140
        by_cases c15 : t112 > x5_1
        ·rw [if_pos c15] at H
         have c15b0 : decide (x5_1 < t112) = true := decide_eq_true c15
         clear c15
         have H' := Aside0.mk H
         clear H
         obtain ⟨Ao16, co16, eo16⟩ := Kd.V_slice HO_6.out
         subst eo16
         have p111 : 0 ≤ (x7_1 : Int) := of_decide_eq_true (by first | (with_reducible assumption) | assumption)
         have q111 : x7_1 < (t108.length : Int) := of_decide_eq_true (by first | (with_reducible assumption) | assumption)
         obtain ⟨ad111, A111_5, c111_5, e111, hx111_0, hx111_1, hx111_2, hx111_3, hx111_4, hx111_5, hl111_5, hi111_5⟩ := at_T24 (Kd.V_reads' HO_6.out).2.2 x7_1 p111 q111
         cases e111
         obtain ⟨ce111, hce111, hMe111, hcc111⟩ := Kd.V_get HO_6.out z24 x7_1 p111 (by first | exact q111 | exact of_decide_eq_true (by first | (with_reducible assumption) | assumption) | (have e_ := (Kd.V_reads' HO_6.out).1; omega))
         obtain ⟨ua111_5, uc111_5, rfl, ul111_5, ge111_5⟩ := k24_openF hMe111
         have hv111_5 := hcc111 5 _ rfl
         rw [add_field _ _ 5 (by omega)] at hv111_5
         replace hv111_5 := Option.some.inj (hv111_5.symm.trans hx111_5)
         injection hv111_5 with hva_ hvn_ hvc_
         rw [hva_] at ge111_5
         rw [hvc_] at ul111_5
         have HL111_5 := Aside0.mk (show Kd.V k24 24 _ w.heap.size _ _ ((rd_T24 t108 x7_1).f5) from Kd.V_mk ul111_5 ge111_5)
         clear hva_ hvn_ hvc_ ge111_5 ul111_5
         clear hcc111 hce111
         have HR111_5 := Aside0.mk hi111_5
         have HC111_5 := Aside0.mk hl111_5
         clear hi111_5 hl111_5
         replace p111 := eq_true p111
         replace q111 := eq_true q111
         go_wp2_with (first | ((with_reducible refine gate_callee (f := 29) rfl ?_); refine goesL_ (some 27) rfl rfl Tryd.func29 (by kernel_rfl) rfl #[.agg #[.int .i64 ((rd_T24 t108 x7_1).f0), .int .i64 ((rd_T24 t108 x7_1).f1), .int .i64 ((rd_T24 t108 x7_1).f2), .int .i64 ((rd_T24 t108 x7_1).f3), .int .i64 ((rd_T24 t108 x7_1).f4), .slice A111_5 ((rd_T24 t108 x7_1).f5).length c111_5], .int .i64 (wrap64 (a1 - 1))] rfl (by (try simp only [List.map_toArray, List.map_cons, List.map_nil]); first | done | rfl | (simp only [List.length_drop, List.length_take]; rfl)) ?_; (with_reducible refine (ih kj6 (by have := HK1.out; have := HJ6.out; omega) ((rd_T24 t108 x7_1).f0) ((rd_T24 t108 x7_1).f1) ((rd_T24 t108 x7_1).f2) ((rd_T24 t108 x7_1).f3) ((rd_T24 t108 x7_1).f4) _ _ ((rd_T24 t108 x7_1).f5) (wrap64 (a1 - 1)) t112 _ ?side1 ?side2 A14.out).mono ?_); (case side1 => repeat (first | exact (by repeat (first | (with_reducible exact HR111_5.out) | (with_reducible refine Kd.C_alloc ?_ _) | (with_reducible refine Kd.C_drewN ?_ _) | (with_reducible refine Kd.C_drew ?_) | exact HR111_5.out)) | (with_reducible refine Kd.C_alloc ?_ _) | (with_reducible refine Kd.C_drewN ?_ _) | (with_reducible refine Kd.C_drew ?_))); (case side2 => exact HC111_5.out); rintro e w17 ⟨rfl, hb⟩; refine ⟨_, rfl, ?_⟩; have n0_ := Aside0.mk (Kd.V_below (by (with_reducible repeat (first | apply Kd.V_alloc | apply Kd.V_drewN | apply Kd.V_drew)); exact HO_6.out) hb); have n1_ := Aside0.mk (Kd.V_below (by (with_reducible repeat (first | apply Kd.V_alloc | apply Kd.V_drewN | apply Kd.V_drew)); exact HL111_5.out) hb); have n2_ := Aside0.mk (blk_below (g := gb107) (o := .cells #[.int .i64 a0_0, .int .i64 a0_1, .int .i64 a0_2, .int .i64 a0_3, .int .i64 a0_4, .slice A0_5 l0_5.length c0_5] 24 (0, 0)) (by (with_reducible repeat (first | refine blk_drewN ?_ _ | refine blk_drew ?_ | refine blk_alloc ?_ _)); exact BK107.out) hb); have n3_ := Aside0.mk (Kd.C_below (by repeat (first | (with_reducible exact HR111_5.out) | (with_reducible refine Kd.C_alloc ?_ _) | (with_reducible refine Kd.C_drewN ?_ _) | (with_reducible refine Kd.C_drew ?_) | exact HR111_5.out)) hb); have n4_ := Aside0.mk (below_step (by repeat (first | (with_reducible first | exact HB.out | apply below_alloc | apply pw_below_drewN | apply below_drew1 | refine below_set ?_ GE107.out) | exact HB.out)) hb); clear HO_6; clear HL111_5; clear BK107; clear HR111_5; clear HB; have HO_6 := n0_; have HL111_5 := n1_; have BK107 := n2_; have HR111_5 := n3_; have HB := n4_; clear n0_ n1_ n2_ n3_ n4_; (try clear hb); (try clear hb2); (try clear hk); (try clear hi)))
         go_roundg kj6
         case measure => have := HK1.out; have := HJ6.out; omega
         case rel => exact ⟨(t112), (wrap64 (x7_1 + 1)), (by first | rfl | (simp; done) | (simp [*]; done)), (by first | rfl | (simp; done) | (simp [*]; done)), H', ⟨by have := HK1.out; have := HJ6.out; omega⟩, ⟨by (with_reducible repeat (first | apply Kd.V_alloc | apply Kd.V_drewN | apply Kd.V_drew)); exact HO_6.out⟩, ⟨by (with_reducible repeat (first | refine blk_drewN ?_ _ | refine blk_drew ?_ | refine blk_alloc ?_ _)); exact BK107.out⟩, ⟨by repeat (first | (with_reducible first | exact HB.out | apply below_alloc | apply pw_below_drewN | apply below_drew1 | refine below_set ?_ GE107.out) | exact HB.out)⟩⟩
        ·rw [if_neg c15] at H
         have c15b0 : decide (x5_1 < t112) = false := decide_eq_false c15
         clear c15
         have H' := Aside0.mk H
         clear H
         obtain ⟨Ao18, co18, eo18⟩ := Kd.V_slice HO_6.out
         subst eo18
         have p111 : 0 ≤ (x7_1 : Int) := of_decide_eq_true (by first | (with_reducible assumption) | assumption)
         have q111 : x7_1 < (t108.length : Int) := of_decide_eq_true (by first | (with_reducible assumption) | assumption)
         obtain ⟨ad111, A111_5, c111_5, e111, hx111_0, hx111_1, hx111_2, hx111_3, hx111_4, hx111_5, hl111_5, hi111_5⟩ := at_T24 (Kd.V_reads' HO_6.out).2.2 x7_1 p111 q111
         cases e111
         obtain ⟨ce111, hce111, hMe111, hcc111⟩ := Kd.V_get HO_6.out z24 x7_1 p111 (by first | exact q111 | exact of_decide_eq_true (by first | (with_reducible assumption) | assumption) | (have e_ := (Kd.V_reads' HO_6.out).1; omega))
         obtain ⟨ua111_5, uc111_5, rfl, ul111_5, ge111_5⟩ := k24_openF hMe111
         have hv111_5 := hcc111 5 _ rfl
         rw [add_field _ _ 5 (by omega)] at hv111_5
         replace hv111_5 := Option.some.inj (hv111_5.symm.trans hx111_5)
         injection hv111_5 with hva_ hvn_ hvc_
         rw [hva_] at ge111_5
         rw [hvc_] at ul111_5
         have HL111_5 := Aside0.mk (show Kd.V k24 24 _ w.heap.size _ _ ((rd_T24 t108 x7_1).f5) from Kd.V_mk ul111_5 ge111_5)
         clear hva_ hvn_ hvc_ ge111_5 ul111_5
         clear hcc111 hce111
         have HR111_5 := Aside0.mk hi111_5
         have HC111_5 := Aside0.mk hl111_5
         clear hi111_5 hl111_5
         replace p111 := eq_true p111
         replace q111 := eq_true q111
         go_wp2_with (first | ((with_reducible refine gate_callee (f := 29) rfl ?_); refine goesL_ (some 27) rfl rfl Tryd.func29 (by kernel_rfl) rfl #[.agg #[.int .i64 ((rd_T24 t108 x7_1).f0), .int .i64 ((rd_T24 t108 x7_1).f1), .int .i64 ((rd_T24 t108 x7_1).f2), .int .i64 ((rd_T24 t108 x7_1).f3), .int .i64 ((rd_T24 t108 x7_1).f4), .slice A111_5 ((rd_T24 t108 x7_1).f5).length c111_5], .int .i64 (wrap64 (a1 - 1))] rfl (by (try simp only [List.map_toArray, List.map_cons, List.map_nil]); first | done | rfl | (simp only [List.length_drop, List.length_take]; rfl)) ?_; (with_reducible refine (ih kj6 (by have := HK1.out; have := HJ6.out; omega) ((rd_T24 t108 x7_1).f0) ((rd_T24 t108 x7_1).f1) ((rd_T24 t108 x7_1).f2) ((rd_T24 t108 x7_1).f3) ((rd_T24 t108 x7_1).f4) _ _ ((rd_T24 t108 x7_1).f5) (wrap64 (a1 - 1)) t112 _ ?side1 ?side2 A14.out).mono ?_); (case side1 => repeat (first | exact (by repeat (first | (with_reducible exact HR111_5.out) | (with_reducible refine Kd.C_alloc ?_ _) | (with_reducible refine Kd.C_drewN ?_ _) | (with_reducible refine Kd.C_drew ?_) | exact HR111_5.out)) | (with_reducible refine Kd.C_alloc ?_ _) | (with_reducible refine Kd.C_drewN ?_ _) | (with_reducible refine Kd.C_drew ?_))); (case side2 => exact HC111_5.out); rintro e w19 ⟨rfl, hb⟩; refine ⟨_, rfl, ?_⟩; have n0_ := Aside0.mk (Kd.V_below (by (with_reducible repeat (first | apply Kd.V_alloc | apply Kd.V_drewN | apply Kd.V_drew)); exact HO_6.out) hb); have n1_ := Aside0.mk (Kd.V_below (by (with_reducible repeat (first | apply Kd.V_alloc | apply Kd.V_drewN | apply Kd.V_drew)); exact HL111_5.out) hb); have n2_ := Aside0.mk (blk_below (g := gb107) (o := .cells #[.int .i64 a0_0, .int .i64 a0_1, .int .i64 a0_2, .int .i64 a0_3, .int .i64 a0_4, .slice A0_5 l0_5.length c0_5] 24 (0, 0)) (by (with_reducible repeat (first | refine blk_drewN ?_ _ | refine blk_drew ?_ | refine blk_alloc ?_ _)); exact BK107.out) hb); have n3_ := Aside0.mk (Kd.C_below (by repeat (first | (with_reducible exact HR111_5.out) | (with_reducible refine Kd.C_alloc ?_ _) | (with_reducible refine Kd.C_drewN ?_ _) | (with_reducible refine Kd.C_drew ?_) | exact HR111_5.out)) hb); have n4_ := Aside0.mk (below_step (by repeat (first | (with_reducible first | exact HB.out | apply below_alloc | apply pw_below_drewN | apply below_drew1 | refine below_set ?_ GE107.out) | exact HB.out)) hb); clear HO_6; clear HL111_5; clear BK107; clear HR111_5; clear HB; have HO_6 := n0_; have HL111_5 := n1_; have BK107 := n2_; have HR111_5 := n3_; have HB := n4_; clear n0_ n1_ n2_ n3_ n4_; (try clear hb); (try clear hb2); (try clear hk); (try clear hi)))
         go_roundg kj6
         case measure => have := HK1.out; have := HJ6.out; omega
         case rel => exact ⟨(x5_1), (wrap64 (x7_1 + 1)), (by first | rfl | (simp; done) | (simp [*]; done)), (by first | rfl | (simp; done) | (simp [*]; done)), H', ⟨by have := HK1.out; have := HJ6.out; omega⟩, ⟨by (with_reducible repeat (first | apply Kd.V_alloc | apply Kd.V_drewN | apply Kd.V_drew)); exact HO_6.out⟩, ⟨by (with_reducible repeat (first | refine blk_drewN ?_ _ | refine blk_drew ?_ | refine blk_alloc ?_ _)); exact BK107.out⟩, ⟨by repeat (first | (with_reducible first | exact HB.out | apply below_alloc | apply pw_below_drewN | apply below_drew1 | refine below_set ?_ GE107.out) | exact HB.out)⟩⟩
       ·rw [if_neg c13] at H
        exact absurd H (by simp)
      ·rw [if_neg c12] at H
       exact absurd H (by simp)
     ·replace c11 := Bool.eq_false_iff.mpr c11
      subst c11
      have H1 : (some (wrap64 (x5_1 + 1))) = some r := by rw [if_neg (show ¬ (false = true) by decide)] at H; exact H
      clear H
      have H := H1
      clear H1
      obtain rfl := Option.some.inj H
      go_wp2
      go_ret
      exact ⟨by first | rfl | (simp [errW_none, errW_some] <;> rfl) | (simp [*, errW_none, errW_some] <;> rfl), by repeat (first | (with_reducible first | exact HB.out | apply below_alloc | apply pw_below_drewN | apply below_drew1 | refine below_set ?_ GE107.out) | exact HB.out)⟩

end Go.Proofs.YtdhnfccgojgehaaDoor.QP

namespace Go.Proofs.YtdhnfccgojgehaaDoor.QP
open Go.RowKit Go.Proofs.YtdhnfccgojgehaaDoorW.PrintWords Go.Proofs.YtdhnfccgojgehaaDoorW.PrintLast Go.Proofs.YtdhnfccgojgehaaDoorW.PrintMore
attribute [local go_sem] max2_int min2_int max_two min_two max_three min_three max_four min_four   -- for this text's walks alone
set_option linter.unusedVariables false
set_option linter.unusedSimpArgs false

/-! ### passepartoutref04_Least: function 17 -/
mutual
def passepartoutref04_Least.j0 : Nat → Int → Bool → Int → Int → Int → Int → Int → List (S24) → Option (Int)
 | 0, _, _, _, _, _, _, _, _ => none
 | k + 1, x6, x11, x114000, x114001, x114002, x114003, x114004, x114005 => if x11 = true then (some (wrap64 (x114001 + x114002))) else (if x6 = 4 then (some x114002) else (if x6 = 5 then (some x114002) else (passepartoutref04_Least.l0 k 0 0 x114000 x114001 x114002 x114003 x114004 x114005)))
def passepartoutref04_Least.l0 : Nat → Int → Int → Int → Int → Int → Int → Int → List (S24) → Option (Int)
 | 0, _, _, _, _, _, _, _, _ => none
 | k + 1, x3, x4, x114000, x114001, x114002, x114003, x114004, x114005 => if x4 < (x114005.length : Int) then (if 0 ≤ x4 then ((passepartoutref04_Least.f k ((rd_T24 x114005 x4).f0) ((rd_T24 x114005 x4).f1) ((rd_T24 x114005 x4).f2) ((rd_T24 x114005 x4).f3) ((rd_T24 x114005 x4).f4) ((rd_T24 x114005 x4).f5)).bind fun t115 => (passepartoutref04_Least.l0 k (wrap64 (x3 + t115)) (wrap64 (x4 + 1)) x114000 x114001 x114002 x114003 x114004 x114005)) else (none)) else (some x3)
def passepartoutref04_Least.f : Nat → Int → Int → Int → Int → Int → List (S24) → Option (Int)
 | 0, _, _, _, _, _, _ => none
 | k + 1, a0_0, a0_1, a0_2, a0_3, a0_4, l0_5 => if a0_0 = 0 then (some a0_1) else (if a0_0 = 1 then (passepartoutref04_Least.j0 k a0_0 (a0_0 == 1) a0_0 a0_1 a0_2 a0_3 a0_4 l0_5) else (passepartoutref04_Least.j0 k a0_0 (a0_0 == 2) a0_0 a0_1 a0_2 a0_3 a0_4 l0_5))
end
theorem passepartoutref04_Least.mono_l : ∀ k, (∀ y0 y1 y2 y3 y4 y5, LeO (passepartoutref04_Least.f k y0 y1 y2 y3 y4 y5) (passepartoutref04_Least.f (k + 1) y0 y1 y2 y3 y4 y5)) ∧ (∀ y0 y1 y2 y3 y4 y5 y6 y7, LeO (passepartoutref04_Least.j0 k y0 y1 y2 y3 y4 y5 y6 y7) (passepartoutref04_Least.j0 (k + 1) y0 y1 y2 y3 y4 y5 y6 y7)) ∧ (∀ y0 y1 y2 y3 y4 y5 y6 y7, LeO (passepartoutref04_Least.l0 k y0 y1 y2 y3 y4 y5 y6 y7) (passepartoutref04_Least.l0 (k + 1) y0 y1 y2 y3 y4 y5 y6 y7))
 | 0 => ⟨fun _ _ _ _ _ _ r h => by simp [passepartoutref04_Least.f] at h, fun _ _ _ _ _ _ _ _ r h => by simp [passepartoutref04_Least.j0] at h, fun _ _ _ _ _ _ _ _ r h => by simp [passepartoutref04_Least.l0] at h⟩
 | k + 1 => by
  obtain ⟨ih0, ih1, ih2⟩ := passepartoutref04_Least.mono_l k
  refine ⟨?_, ?_, ?_⟩
  ·intro y0 y1 y2 y3 y4 y5
   unfold passepartoutref04_Least.f
   repeat' first
   | (with_reducible exact ih0 _ _ _ _ _ _)
   | (with_reducible exact ih1 _ _ _ _ _ _ _ _)
   | (with_reducible exact ih2 _ _ _ _ _ _ _ _)
   | (with_reducible exact LeO.refl _)
   | (with_reducible exact LeO.none _)
   | (with_reducible refine LeO.ite ?_ ?_)
   | (with_reducible refine LeO.bind ?_ (fun _ => ?_))
   | exact ih0 _ _ _ _ _ _
   | exact ih1 _ _ _ _ _ _ _ _
   | exact ih2 _ _ _ _ _ _ _ _
   | exact LeO.none _
   | refine LeO.ite ?_ ?_
   | refine LeO.bind ?_ (fun _ => ?_)
  ·intro y0 y1 y2 y3 y4 y5 y6 y7
   unfold passepartoutref04_Least.j0
   repeat' first
   | (with_reducible exact ih0 _ _ _ _ _ _)
   | (with_reducible exact ih1 _ _ _ _ _ _ _ _)
   | (with_reducible exact ih2 _ _ _ _ _ _ _ _)
   | (with_reducible exact LeO.refl _)
   | (with_reducible exact LeO.none _)
   | (with_reducible refine LeO.ite ?_ ?_)
   | (with_reducible refine LeO.bind ?_ (fun _ => ?_))
   | exact ih0 _ _ _ _ _ _
   | exact ih1 _ _ _ _ _ _ _ _
   | exact ih2 _ _ _ _ _ _ _ _
   | exact LeO.none _
   | refine LeO.ite ?_ ?_
   | refine LeO.bind ?_ (fun _ => ?_)
  ·intro y0 y1 y2 y3 y4 y5 y6 y7
   unfold passepartoutref04_Least.l0
   repeat' first
   | (with_reducible exact ih0 _ _ _ _ _ _)
   | (with_reducible exact ih1 _ _ _ _ _ _ _ _)
   | (with_reducible exact ih2 _ _ _ _ _ _ _ _)
   | (with_reducible exact LeO.refl _)
   | (with_reducible exact LeO.none _)
   | (with_reducible refine LeO.ite ?_ ?_)
   | (with_reducible refine LeO.bind ?_ (fun _ => ?_))
   | exact ih0 _ _ _ _ _ _
   | exact ih1 _ _ _ _ _ _ _ _
   | exact ih2 _ _ _ _ _ _ _ _
   | exact LeO.none _
   | refine LeO.ite ?_ ?_
   | refine LeO.bind ?_ (fun _ => ?_)
theorem passepartoutref04_Least.mono : ∀ a0 a1 a2 a3 a4 a5 k, LeO (passepartoutref04_Least.f k a0 a1 a2 a3 a4 a5) (passepartoutref04_Least.f (k + 1) a0 a1 a2 a3 a4 a5) := by
 intro a0 a1 a2 a3 a4 a5 k
 obtain ⟨ih0, ih1, ih2⟩ := passepartoutref04_Least.mono_l k
 exact ih0 a0 a1 a2 a3 a4 a5
set_option maxHeartbeats 8000000 in
set_option maxRecDepth 100000 in
theorem passepartoutref04_Least.calls (k : Nat) : ∀ (a0_0 : Int) (a0_1 : Int) (a0_2 : Int) (a0_3 : Int) (a0_4 : Int) (A0_5 : Option Addr) (c0_5 : Nat) (l0_5 : List (S24)) (r : Int) (w : World) (hr0_5 : Kd.C k24 w A0_5 l0_5.length l0_5) (hc0_5 : l0_5.length ≤ c0_5) (h : passepartoutref04_Least.f k a0_0 a0_1 a0_2 a0_3 a0_4 l0_5 = some r),
  Calls Tryd.prog 17 #[.agg #[.int .i64 a0_0, .int .i64 a0_1, .int .i64 a0_2, .int .i64 a0_3, .int .i64 a0_4, .slice A0_5 l0_5.length c0_5]] w fun e w' => e = .returned (.int .i64 r) ∧ Below w.heap.size w w' := by
 induction k using Nat.strongRecOn with
 | _ k ih =>
 intro a0_0 a0_1 a0_2 a0_3 a0_4 A0_5 c0_5 l0_5 r w hr0_5 hc0_5 h
 cases k with
 | zero => exact absurd h (by simp [passepartoutref04_Least.f])
 | succ k =>
 simp only [passepartoutref04_Least.f] at h
 have hu24 := Tryd.underlying24
 have HR0_5 := Aside0.mk hr0_5
 have HC0_5 := Aside0.mk hc0_5
 clear hr0_5 hc0_5
 have HB := Aside0.mk (Below.refl w.heap.size w)
 have H : (if a0_0 = 0 then (some a0_1) else (if a0_0 = 1 then (passepartoutref04_Least.j0 k a0_0 (a0_0 == 1) a0_0 a0_1 a0_2 a0_3 a0_4 l0_5) else (passepartoutref04_Least.j0 k a0_0 (a0_0 == 2) a0_0 a0_1 a0_2 a0_3 a0_4 l0_5))) = some r := h
 clear h
 by_cases c2 : a0_0 = 0
 ·rw [if_pos c2] at H
  have c2b0 : (a0_0 == 0) = true := beq_iff_eq.mpr c2
  have c2b1 : (a0_0 != 0) = false := bne_eq_false_iff_eq.mpr c2
  clear c2
  obtain rfl := Option.some.inj H
  go_enter Tryd.func17, Tryd.ntmps17
  go_wp2_with (first | ((with_reducible refine gate_dst (N := 1) rfl ?_); refine box_event ?hg (N := 1) ?hd (cs := #[.int .i64 a0_0, .int .i64 a0_1, .int .i64 a0_2, .int .i64 a0_3, .int .i64 a0_4, .slice A0_5 l0_5.length c0_5]) (t := 24) ?hr ?_; (case hd => rfl); (case hg => rfl); (case hr => first | (go_simp; done) | (go_simp; rfl)); intro gb113 hg w3 hbox hb; have n0_ := Aside0.mk (below_step (by repeat (first | (with_reducible first | exact HB.out | apply below_alloc | apply pw_below_drewN | apply below_drew1) | exact HB.out)) hb); have n1_ := Aside0.mk (hbox); have n2_ := Aside0.mk ((by rw [hg]; exact (below_size (by repeat (first | (with_reducible first | exact HB.out | apply below_alloc | apply pw_below_drewN | apply below_drew1) | exact HB.out))) : w.heap.size ≤ gb113)); have n3_ := Aside0.mk ((by rw [hg]; exact (below_size (by repeat (first | (with_reducible first | exact HB.out | apply below_alloc | apply pw_below_drewN | apply below_drew1) | exact HB.out))) : w.heap.size ≤ gb113)); clear HB; have HB := n0_; have BK113 := n1_; have GW113 := n2_; have GE113 := n3_; clear n0_ n1_ n2_ n3_; clear hb hbox hg; have hcz4_0 : w3.cell? ⟨gb113, 0, none⟩ = some (.int .i64 a0_0) := (blk_cell BK113.out 0).trans rfl; have hcz4_1 : w3.cell? ⟨gb113, 1, none⟩ = some (.int .i64 a0_1) := (blk_cell BK113.out 1).trans rfl; have hcz4_2 : w3.cell? ⟨gb113, 2, none⟩ = some (.int .i64 a0_2) := (blk_cell BK113.out 2).trans rfl; have hcz4_3 : w3.cell? ⟨gb113, 3, none⟩ = some (.int .i64 a0_3) := (blk_cell BK113.out 3).trans rfl; have hcz4_4 : w3.cell? ⟨gb113, 4, none⟩ = some (.int .i64 a0_4) := (blk_cell BK113.out 4).trans rfl; have hcz4_5 : w3.cell? ⟨gb113, 5, none⟩ = some (.slice A0_5 l0_5.length c0_5) := (blk_cell BK113.out 5).trans rfl; have hfz4_0 := blk_frozen BK113.out 0; have hfz4_1 := blk_frozen BK113.out 1; have hfz4_2 := blk_frozen BK113.out 2; have hfz4_3 := blk_frozen BK113.out 3; have hfz4_4 := blk_frozen BK113.out 4; have hfz4_5 := blk_frozen BK113.out 5))
  go_ret
  exact ⟨by first | rfl | (simp [errW_none, errW_some] <;> rfl) | (simp [*, errW_none, errW_some] <;> rfl), by repeat (first | (with_reducible first | exact HB.out | apply below_alloc | apply pw_below_drewN | apply below_drew1 | refine below_set ?_ GE113.out) | exact HB.out)⟩
 ·rw [if_neg c2] at H
  have c2b0 : (a0_0 == 0) = false := beq_eq_false_iff_ne.mpr c2
  have c2b1 : (a0_0 != 0) = true := bne_iff_ne.mpr c2
  have HC5 := Aside0.mk H
  clear H
  go_enter Tryd.func17, Tryd.ntmps17
  go_upto_if 11 with (first | ((with_reducible refine gate_dst (N := 1) rfl ?_); refine box_event ?hg (N := 1) ?hd (cs := #[.int .i64 a0_0, .int .i64 a0_1, .int .i64 a0_2, .int .i64 a0_3, .int .i64 a0_4, .slice A0_5 l0_5.length c0_5]) (t := 24) ?hr ?_; (case hd => rfl); (case hg => rfl); (case hr => first | (go_simp; done) | (go_simp; rfl)); intro gb113 hg w6 hbox hb; have n0_ := Aside0.mk (below_step (by repeat (first | (with_reducible first | exact HB.out | apply below_alloc | apply pw_below_drewN | apply below_drew1) | exact HB.out)) hb); have n1_ := Aside0.mk (hbox); have n2_ := Aside0.mk ((by rw [hg]; exact (below_size (by repeat (first | (with_reducible first | exact HB.out | apply below_alloc | apply pw_below_drewN | apply below_drew1) | exact HB.out))) : w.heap.size ≤ gb113)); have n3_ := Aside0.mk ((by rw [hg]; exact (below_size (by repeat (first | (with_reducible first | exact HB.out | apply below_alloc | apply pw_below_drewN | apply below_drew1) | exact HB.out))) : w.heap.size ≤ gb113)); clear HB; have HB := n0_; have BK113 := n1_; have GW113 := n2_; have GE113 := n3_; clear n0_ n1_ n2_ n3_; clear hb hbox hg; have hcz7_0 : w6.cell? ⟨gb113, 0, none⟩ = some (.int .i64 a0_0) := (blk_cell BK113.out 0).trans rfl; have hcz7_1 : w6.cell? ⟨gb113, 1, none⟩ = some (.int .i64 a0_1) := (blk_cell BK113.out 1).trans rfl; have hcz7_2 : w6.cell? ⟨gb113, 2, none⟩ = some (.int .i64 a0_2) := (blk_cell BK113.out 2).trans rfl; have hcz7_3 : w6.cell? ⟨gb113, 3, none⟩ = some (.int .i64 a0_3) := (blk_cell BK113.out 3).trans rfl; have hcz7_4 : w6.cell? ⟨gb113, 4, none⟩ = some (.int .i64 a0_4) := (blk_cell BK113.out 4).trans rfl; have hcz7_5 : w6.cell? ⟨gb113, 5, none⟩ = some (.slice A0_5 l0_5.length c0_5) := (blk_cell BK113.out 5).trans rfl; have hfz7_0 := blk_frozen BK113.out 0; have hfz7_1 := blk_frozen BK113.out 1; have hfz7_2 := blk_frozen BK113.out 2; have hfz7_3 := blk_frozen BK113.out 3; have hfz7_4 := blk_frozen BK113.out 4; have hfz7_5 := blk_frozen BK113.out 5))
  (try simp only [Act.put, List.setIfInBounds_toArray, List.set_cons_zero, List.set_cons_succ])
  go_cut [11] (fun v11 wc => ∃ (kq : Nat) (x11_4 : Bool), v11 = .bool x11_4 ∧ Aside0 (passepartoutref04_Least.j0 kq a0_0 x11_4 a0_0 a0_1 a0_2 a0_3 a0_4 l0_5 = some r) ∧ Aside0 (kq ≤ k) ∧ Aside0 (wc.heap[gb113]? = some (.cells #[.int .i64 a0_0, .int .i64 a0_1, .int .i64 a0_2, .int .i64 a0_3, .int .i64 a0_4, (.slice A0_5 l0_5.length c0_5)] 24 (0, 0))) ∧ Aside0 (Below w.heap.size w wc))
  case first =>
   have H := HC5.out
   clear HC5
   by_cases c8 : a0_0 = 1
   ·rw [if_pos c8] at H
    have c8b0 : (a0_0 == 1) = true := beq_iff_eq.mpr c8
    have c8b1 : (a0_0 != 1) = false := bne_eq_false_iff_eq.mpr c8
    clear c8
    (first | rw [c8b0] | (simp only [i64_w, i32_w]; rw [c8b0]) | skip)
    have H' := Aside0.mk H
    clear H
    go_wp2
    go_meet
    case rel => exact ⟨_, ((a0_0 == 1)), (by first | rfl | (simp; done) | (simp [*]; done)), H', ⟨by first | omega | exact Nat.le_refl _⟩, ⟨by (with_reducible repeat (first | refine blk_drewN ?_ _ | refine blk_drew ?_ | refine blk_alloc ?_ _)); exact BK113.out⟩, ⟨by repeat (first | (with_reducible first | exact HB.out | apply below_alloc | apply pw_below_drewN | apply below_drew1 | refine below_set ?_ GE113.out) | exact HB.out)⟩⟩
   ·rw [if_neg c8] at H
    have c8b0 : (a0_0 == 1) = false := beq_eq_false_iff_ne.mpr c8
    have c8b1 : (a0_0 != 1) = true := bne_iff_ne.mpr c8
    (first | rw [c8b0] | (simp only [i64_w, i32_w]; rw [c8b0]) | skip)
    have H' := Aside0.mk H
    clear H
    go_wp2
    go_meet
    case rel => exact ⟨_, ((a0_0 == 2)), (by first | rfl | (simp; done) | (simp [*]; done)), H', ⟨by first | omega | exact Nat.le_refl _⟩, ⟨by (with_reducible repeat (first | refine blk_drewN ?_ _ | refine blk_drew ?_ | refine blk_alloc ?_ _)); exact BK113.out⟩, ⟨by repeat (first | (with_reducible first | exact HB.out | apply below_alloc | apply pw_below_drewN | apply below_drew1 | refine below_set ?_ GE113.out) | exact HB.out)⟩⟩
  case rest =>
   clear HC5
   try clear c1
   try clear c2
   try clear c2b0
   try clear c2b1
   try clear p2
   try clear c8
   try clear c8b0
   try clear c8b1
   try clear hcz4_0
   try clear hcz4_1
   try clear hcz4_2
   try clear hcz4_3
   try clear hcz4_4
   try clear hcz4_5
   try clear hcz7_0
   try clear hcz7_1
   try clear hcz7_2
   try clear hcz7_3
   try clear hcz7_4
   try clear hcz7_5
   try clear hfz4_0
   try clear hfz4_1
   try clear hfz4_2
   try clear hfz4_3
   try clear hfz4_4
   try clear hfz4_5
   try clear hfz7_0
   try clear hfz7_1
   try clear hfz7_2
   try clear hfz7_3
   try clear hfz7_4
   try clear hfz7_5
   obtain ⟨kq, x11_4, rfl, HA, HJ4, BK113, HB⟩ := hcut
   cases kq with
   | zero => exact absurd HA.out (by simp [passepartoutref04_Least.j0])
   | succ kj4 =>
    have H := HA.out
    clear HA
    simp only [passepartoutref04_Least.j0] at H
    by_cases c9 : x11_4 = true
    ·subst c9
     have H1 : (some (wrap64 (a0_1 + a0_2))) = some r := by rw [if_pos rfl] at H; exact H
     clear H
     have H := H1
     clear H1
     obtain rfl := Option.some.inj H
     have hcz10_0 : wc.cell? ⟨gb113, 0, none⟩ = some (.int .i64 a0_0) := (blk_cell BK113.out 0).trans rfl
     have hcz10_1 : wc.cell? ⟨gb113, 1, none⟩ = some (.int .i64 a0_1) := (blk_cell BK113.out 1).trans rfl
     have hcz10_2 : wc.cell? ⟨gb113, 2, none⟩ = some (.int .i64 a0_2) := (blk_cell BK113.out 2).trans rfl
     have hcz10_3 : wc.cell? ⟨gb113, 3, none⟩ = some (.int .i64 a0_3) := (blk_cell BK113.out 3).trans rfl
     have hcz10_4 : wc.cell? ⟨gb113, 4, none⟩ = some (.int .i64 a0_4) := (blk_cell BK113.out 4).trans rfl
     have hcz10_5 : wc.cell? ⟨gb113, 5, none⟩ = some (.slice A0_5 l0_5.length c0_5) := (blk_cell BK113.out 5).trans rfl
     have hfz10_0 := blk_frozen BK113.out 0
     have hfz10_1 := blk_frozen BK113.out 1
     have hfz10_2 := blk_frozen BK113.out 2
     have hfz10_3 := blk_frozen BK113.out 3
     have hfz10_4 := blk_frozen BK113.out 4
     have hfz10_5 := blk_frozen BK113.out 5
     go_wp2
     go_ret
     exact ⟨by first | rfl | (simp [errW_none, errW_some] <;> rfl) | (simp [*, errW_none, errW_some] <;> rfl), by repeat (first | (with_reducible first | exact HB.out | apply below_alloc | apply pw_below_drewN | apply below_drew1 | refine below_set ?_ GE113.out) | exact HB.out)⟩
    ·replace c9 := Bool.eq_false_iff.mpr c9
     subst c9
     have H1 : (if a0_0 = 4 then (some a0_2) else (if a0_0 = 5 then (some a0_2) else (passepartoutref04_Least.l0 kj4 0 0 a0_0 a0_1 a0_2 a0_3 a0_4 l0_5))) = some r := by rw [if_neg (show ¬ (false = true) by decide)] at H; exact H
     clear H
     have H := H1
     clear H1
     by_cases c11 : a0_0 = 4
     ·rw [if_pos c11] at H
      have c11b0 : (a0_0 == 4) = true := beq_iff_eq.mpr c11
      have c11b1 : (a0_0 != 4) = false := bne_eq_false_iff_eq.mpr c11
      clear c11
      obtain rfl := Option.some.inj H
      have hcz12_0 : wc.cell? ⟨gb113, 0, none⟩ = some (.int .i64 a0_0) := (blk_cell BK113.out 0).trans rfl
      have hcz12_1 : wc.cell? ⟨gb113, 1, none⟩ = some (.int .i64 a0_1) := (blk_cell BK113.out 1).trans rfl
      have hcz12_2 : wc.cell? ⟨gb113, 2, none⟩ = some (.int .i64 a0_2) := (blk_cell BK113.out 2).trans rfl
      have hcz12_3 : wc.cell? ⟨gb113, 3, none⟩ = some (.int .i64 a0_3) := (blk_cell BK113.out 3).trans rfl
      have hcz12_4 : wc.cell? ⟨gb113, 4, none⟩ = some (.int .i64 a0_4) := (blk_cell BK113.out 4).trans rfl
      have hcz12_5 : wc.cell? ⟨gb113, 5, none⟩ = some (.slice A0_5 l0_5.length c0_5) := (blk_cell BK113.out 5).trans rfl
      have hfz12_0 := blk_frozen BK113.out 0
      have hfz12_1 := blk_frozen BK113.out 1
      have hfz12_2 := blk_frozen BK113.out 2
      have hfz12_3 := blk_frozen BK113.out 3
      have hfz12_4 := blk_frozen BK113.out 4
      have hfz12_5 := blk_frozen BK113.out 5
      go_wp2
      go_ret
      exact ⟨by first | rfl | (simp [errW_none, errW_some] <;> rfl) | (simp [*, errW_none, errW_some] <;> rfl), by repeat (first | (with_reducible first | exact HB.out | apply below_alloc | apply pw_below_drewN | apply below_drew1 | refine below_set ?_ GE113.out) | exact HB.out)⟩
     ·rw [if_neg c11] at H
      have c11b0 : (a0_0 == 4) = false := beq_eq_false_iff_ne.mpr c11
      have c11b1 : (a0_0 != 4) = true := bne_iff_ne.mpr c11
      by_cases c13 : a0_0 = 5
      ·rw [if_pos c13] at H
       have c13b0 : (a0_0 == 5) = true := beq_iff_eq.mpr c13
       have c13b1 : (a0_0 != 5) = false := bne_eq_false_iff_eq.mpr c13
       clear c13
       obtain rfl := Option.some.inj H
       have hcz14_0 : wc.cell? ⟨gb113, 0, none⟩ = some (.int .i64 a0_0) := (blk_cell BK113.out 0).trans rfl
       have hcz14_1 : wc.cell? ⟨gb113, 1, none⟩ = some (.int .i64 a0_1) := (blk_cell BK113.out 1).trans rfl
       have hcz14_2 : wc.cell? ⟨gb113, 2, none⟩ = some (.int .i64 a0_2) := (blk_cell BK113.out 2).trans rfl
       have hcz14_3 : wc.cell? ⟨gb113, 3, none⟩ = some (.int .i64 a0_3) := (blk_cell BK113.out 3).trans rfl
       have hcz14_4 : wc.cell? ⟨gb113, 4, none⟩ = some (.int .i64 a0_4) := (blk_cell BK113.out 4).trans rfl
       have hcz14_5 : wc.cell? ⟨gb113, 5, none⟩ = some (.slice A0_5 l0_5.length c0_5) := (blk_cell BK113.out 5).trans rfl
       have hfz14_0 := blk_frozen BK113.out 0
       have hfz14_1 := blk_frozen BK113.out 1
       have hfz14_2 := blk_frozen BK113.out 2
       have hfz14_3 := blk_frozen BK113.out 3
       have hfz14_4 := blk_frozen BK113.out 4
       have hfz14_5 := blk_frozen BK113.out 5
       go_wp2
       go_ret
       exact ⟨by first | rfl | (simp [errW_none, errW_some] <;> rfl) | (simp [*, errW_none, errW_some] <;> rfl), by repeat (first | (with_reducible first | exact HB.out | apply below_alloc | apply pw_below_drewN | apply below_drew1 | refine below_set ?_ GE113.out) | exact HB.out)⟩
      ·rw [if_neg c13] at H
       have c13b0 : (a0_0 == 5) = false := beq_eq_false_iff_ne.mpr c13
       have c13b1 : (a0_0 != 5) = true := bne_iff_ne.mpr c13
       have H' := Aside0.mk H
       clear H
       go_wp2
       go_loopg [3, 4] kj4 (fun kq v3 v4 w' => ∃ (x3_2 : Int) (x4_2 : Int), v3 = .int .i64 x3_2 ∧ v4 = .int .i64 x4_2 ∧ Aside0 (passepartoutref04_Least.l0 kq x3_2 x4_2 a0_0 a0_1 a0_2 a0_3 a0_4 l0_5 = some r) ∧ Aside0 (kq ≤ kj4) ∧ Aside0 (w'.heap[gb113]? = some (.cells #[.int .i64 a0_0, .int .i64 a0_1, .int .i64 a0_2, .int .i64 a0_3, .int .i64 a0_4, (.slice A0_5 l0_5.length c0_5)] 24 (0, 0))) ∧ Aside0 (Below w.heap.size w w'))
       case atStart => exact ⟨(0), (0), (by first | rfl | (simp; done) | (simp [*]; done)), (by first | rfl | (simp; done) | (simp [*]; done)), H', ⟨Nat.le_refl _⟩, ⟨by (with_reducible repeat (first | refine blk_drewN ?_ _ | refine blk_drew ?_ | refine blk_alloc ?_ _)); exact BK113.out⟩, ⟨by repeat (first | (with_reducible first | exact HB.out | apply below_alloc | apply pw_below_drewN | apply below_drew1 | refine below_set ?_ GE113.out) | exact HB.out)⟩⟩
       case round =>
        clear H'
        try clear c1
        try clear c2
        try clear c2b0
        try clear c2b1
        try clear p2
        try clear p6
        try clear c8
        try clear c8b0
        try clear c8b1
        try clear c9
        try clear c11
        try clear c11b0
        try clear c11b1
        try clear c13
        try clear c13b0
        try clear c13b1
        try clear hcz10_0
        try clear hcz10_1
        try clear hcz10_2
        try clear hcz10_3
        try clear hcz10_4
        try clear hcz10_5
        try clear hcz12_0
        try clear hcz12_1
        try clear hcz12_2
        try clear hcz12_3
        try clear hcz12_4
        try clear hcz12_5
        try clear hcz14_0
        try clear hcz14_1
        try clear hcz14_2
        try clear hcz14_3
        try clear hcz14_4
        try clear hcz14_5
        try clear hcz4_0
        try clear hcz4_1
        try clear hcz4_2
        try clear hcz4_3
        try clear hcz4_4
        try clear hcz4_5
        try clear hcz7_0
        try clear hcz7_1
        try clear hcz7_2
        try clear hcz7_3
        try clear hcz7_4
        try clear hcz7_5
        try clear hfz10_0
        try clear hfz10_1
        try clear hfz10_2
        try clear hfz10_3
        try clear hfz10_4
        try clear hfz10_5
        try clear hfz12_0
        try clear hfz12_1
        try clear hfz12_2
        try clear hfz12_3
        try clear hfz12_4
        try clear hfz12_5
        try clear hfz14_0
        try clear hfz14_1
        try clear hfz14_2
        try clear hfz14_3
        try clear hfz14_4
        try clear hfz14_5
        try clear hfz4_0
        try clear hfz4_1
        try clear hfz4_2
        try clear hfz4_3
        try clear hfz4_4
        try clear hfz4_5
        try clear hfz7_0
        try clear hfz7_1
        try clear hfz7_2
        try clear hfz7_3
        try clear hfz7_4
        try clear hfz7_5
        try clear p2
        obtain ⟨x3_2, x4_2, rfl, rfl, HA, HK2, BK113, HB⟩ := hrel
        cases gk with
        | zero => exact absurd HA.out (by simp [passepartoutref04_Least.l0])
        | succ k2 =>
         have H := HA.out
         clear HA
         simp only [passepartoutref04_Least.l0] at H
         by_cases c15 : x4_2 < (l0_5.length : Int)
         ·rw [if_pos c15] at H
          have c15b0 : decide (x4_2 < (l0_5.length : Int)) = true := decide_eq_true c15
          clear c15
          by_cases c16 : 0 ≤ x4_2
          ·rw [if_pos c16] at H
           have c16b0 : decide (0 ≤ x4_2) = true := decide_eq_true c16
           clear c16
           replace H := Option.bind_eq_some_iff.mp H
           obtain ⟨t115, A170, H⟩ := H
           replace H : (passepartoutref04_Least.l0 k2 (wrap64 (x3_2 + t115)) (wrap64 (x4_2 + 1)) a0_0 a0_1 a0_2 a0_3 a0_4 l0_5) = some r := H
           have A17 := Aside0.mk A170
           clear A170
           have H' := Aside0.mk H
           clear H
           have hcz18_0 : wr.cell? ⟨gb113, 0, none⟩ = some (.int .i64 a0_0) := (blk_cell BK113.out 0).trans rfl
           have hcz18_1 : wr.cell? ⟨gb113, 1, none⟩ = some (.int .i64 a0_1) := (blk_cell BK113.out 1).trans rfl
           have hcz18_2 : wr.cell? ⟨gb113, 2, none⟩ = some (.int .i64 a0_2) := (blk_cell BK113.out 2).trans rfl
           have hcz18_3 : wr.cell? ⟨gb113, 3, none⟩ = some (.int .i64 a0_3) := (blk_cell BK113.out 3).trans rfl
           have hcz18_4 : wr.cell? ⟨gb113, 4, none⟩ = some (.int .i64 a0_4) := (blk_cell BK113.out 4).trans rfl
           have hcz18_5 : wr.cell? ⟨gb113, 5, none⟩ = some (.slice A0_5 l0_5.length c0_5) := (blk_cell BK113.out 5).trans rfl
           have hfz18_0 := blk_frozen BK113.out 0
           have hfz18_1 := blk_frozen BK113.out 1
           have hfz18_2 := blk_frozen BK113.out 2
           have hfz18_3 := blk_frozen BK113.out 3
           have hfz18_4 := blk_frozen BK113.out 4
           have hfz18_5 := blk_frozen BK113.out 5
           have p114 : 0 ≤ (x4_2 : Int) := of_decide_eq_true (by first | (with_reducible assumption) | assumption)
           have q114 : x4_2 < (l0_5.length : Int) := of_decide_eq_true (by first | (with_reducible assumption) | assumption)
           obtain ⟨ad114, A114_5, c114_5, e114, hx114_0, hx114_1, hx114_2, hx114_3, hx114_4, hx114_5, hl114_5, hi114_5⟩ := at_T24 HR0_5.out x4_2 p114 q114
           cases e114
           replace hx114_0 := (HB.out.cell (World.block_lt_of_cell? w _ hx114_0)).trans hx114_0
           replace hx114_1 := (HB.out.cell (World.block_lt_of_cell? w _ hx114_1)).trans hx114_1
           replace hx114_2 := (HB.out.cell (World.block_lt_of_cell? w _ hx114_2)).trans hx114_2
           replace hx114_3 := (HB.out.cell (World.block_lt_of_cell? w _ hx114_3)).trans hx114_3
           replace hx114_4 := (HB.out.cell (World.block_lt_of_cell? w _ hx114_4)).trans hx114_4
           replace hx114_5 := (HB.out.cell (World.block_lt_of_cell? w _ hx114_5)).trans hx114_5
           have HR114_5 := Aside0.mk hi114_5
           have HC114_5 := Aside0.mk hl114_5
           clear hi114_5 hl114_5
           replace p114 := eq_true p114
           replace q114 := eq_true q114
           go_wp2_with (first | ((with_reducible refine gate_callee (f := 17) rfl ?_); refine goesL_ (some 37) rfl rfl Tryd.func17 (by kernel_rfl) rfl #[.agg #[.int .i64 ((rd_T24 l0_5 x4_2).f0), .int .i64 ((rd_T24 l0_5 x4_2).f1), .int .i64 ((rd_T24 l0_5 x4_2).f2), .int .i64 ((rd_T24 l0_5 x4_2).f3), .int .i64 ((rd_T24 l0_5 x4_2).f4), .slice A114_5 ((rd_T24 l0_5 x4_2).f5).length c114_5]] rfl (by (try simp only [List.map_toArray, List.map_cons, List.map_nil]); first | done | rfl | (simp only [List.length_drop, List.length_take]; rfl)) ?_; (with_reducible refine (ih k2 (by have := HJ4.out; have := HK2.out; omega) ((rd_T24 l0_5 x4_2).f0) ((rd_T24 l0_5 x4_2).f1) ((rd_T24 l0_5 x4_2).f2) ((rd_T24 l0_5 x4_2).f3) ((rd_T24 l0_5 x4_2).f4) _ _ ((rd_T24 l0_5 x4_2).f5) t115 _ ?side1 ?side2 A17.out).mono ?_); (case side1 => repeat (first | exact (Kd.C_below HR114_5.out HB.out) | (with_reducible refine Kd.C_alloc ?_ _) | (with_reducible refine Kd.C_drewN ?_ _) | (with_reducible refine Kd.C_drew ?_))); (case side2 => exact HC114_5.out); rintro e w19 ⟨rfl, hb⟩; refine ⟨_, rfl, ?_⟩; have n0_ := Aside0.mk (blk_below (g := gb113) (o := .cells #[.int .i64 a0_0, .int .i64 a0_1, .int .i64 a0_2, .int .i64 a0_3, .int .i64 a0_4, .slice (some ad114) l0_5.length c0_5] 24 (0, 0)) (by (with_reducible repeat (first | refine blk_drewN ?_ _ | refine blk_drew ?_ | refine blk_alloc ?_ _)); exact BK113.out) hb); have n1_ := Aside0.mk (below_step (by repeat (first | (with_reducible first | exact HB.out | apply below_alloc | apply pw_below_drewN | apply below_drew1 | refine below_set ?_ GE113.out) | exact HB.out)) hb); clear BK113; clear HB; have BK113 := n0_; have HB := n1_; clear n0_ n1_; (try clear hb); (try clear hb2); (try clear hk); (try clear hi)))
           go_roundg k2
           case measure => have := HJ4.out; have := HK2.out; omega
           case rel => exact ⟨(wrap64 (x3_2 + t115)), (wrap64 (x4_2 + 1)), (by first | rfl | (simp; done) | (simp [*]; done)), (by first | rfl | (simp; done) | (simp [*]; done)), H', ⟨by have := HJ4.out; have := HK2.out; omega⟩, ⟨by (with_reducible repeat (first | refine blk_drewN ?_ _ | refine blk_drew ?_ | refine blk_alloc ?_ _)); exact BK113.out⟩, ⟨by repeat (first | (with_reducible first | exact HB.out | apply below_alloc | apply pw_below_drewN | apply below_drew1 | refine below_set ?_ GE113.out) | exact HB.out)⟩⟩
          ·rw [if_neg c16] at H
           exact absurd H (by simp)
         ·rw [if_neg c15] at H
          have c15b0 : decide (x4_2 < (l0_5.length : Int)) = false := decide_eq_false c15
          clear c15
          obtain rfl := Option.some.inj H
          have hcz20_0 : wr.cell? ⟨gb113, 0, none⟩ = some (.int .i64 a0_0) := (blk_cell BK113.out 0).trans rfl
          have hcz20_1 : wr.cell? ⟨gb113, 1, none⟩ = some (.int .i64 a0_1) := (blk_cell BK113.out 1).trans rfl
          have hcz20_2 : wr.cell? ⟨gb113, 2, none⟩ = some (.int .i64 a0_2) := (blk_cell BK113.out 2).trans rfl
          have hcz20_3 : wr.cell? ⟨gb113, 3, none⟩ = some (.int .i64 a0_3) := (blk_cell BK113.out 3).trans rfl
          have hcz20_4 : wr.cell? ⟨gb113, 4, none⟩ = some (.int .i64 a0_4) := (blk_cell BK113.out 4).trans rfl
          have hcz20_5 : wr.cell? ⟨gb113, 5, none⟩ = some (.slice A0_5 l0_5.length c0_5) := (blk_cell BK113.out 5).trans rfl
          have hfz20_0 := blk_frozen BK113.out 0
          have hfz20_1 := blk_frozen BK113.out 1
          have hfz20_2 := blk_frozen BK113.out 2
          have hfz20_3 := blk_frozen BK113.out 3
          have hfz20_4 := blk_frozen BK113.out 4
          have hfz20_5 := blk_frozen BK113.out 5
          go_wp2
          go_ret
          exact ⟨by first | rfl | (simp [errW_none, errW_some] <;> rfl) | (simp [*, errW_none, errW_some] <;> rfl), by repeat (first | (with_reducible first | exact HB.out | apply below_alloc | apply pw_below_drewN | apply below_drew1 | refine below_set ?_ GE113.out) | exact HB.out)⟩

end Go.Proofs.YtdhnfccgojgehaaDoor.QP

namespace Go.Proofs.YtdhnfccgojgehaaDoor.QP
open Go.RowKit Go.Proofs.YtdhnfccgojgehaaDoorW.PrintWords Go.Proofs.YtdhnfccgojgehaaDoorW.PrintLast Go.Proofs.YtdhnfccgojgehaaDoorW.PrintMore
attribute [local go_sem] max2_int min2_int max_two min_two max_three min_three max_four min_four   -- for this text's walks alone
set_option linter.unusedVariables false
set_option linter.unusedSimpArgs false

/-! ### passepartoutref04_Open: function 18 -/
def passepartoutref04_Open.f : Nat → Int → Int → Int → Int → Int → List (S24) → Option (Bool)
 | 0, _, _, _, _, _, _ => none
 | k + 1, a0_0, a0_1, a0_2, a0_3, a0_4, l0_5 => if a0_0 = 4 then (some true) else (if a0_0 = 3 then (if (l0_5.length : Int) = 0 then (some false) else (if 0 ≤ (wrap64 ((l0_5.length : Int) - 1)) then (if (wrap64 ((l0_5.length : Int) - 1)) < (l0_5.length : Int) then ((passepartoutref04_Open.f k ((rd_T24 l0_5 (wrap64 ((l0_5.length : Int) - 1))).f0) ((rd_T24 l0_5 (wrap64 ((l0_5.length : Int) - 1))).f1) ((rd_T24 l0_5 (wrap64 ((l0_5.length : Int) - 1))).f2) ((rd_T24 l0_5 (wrap64 ((l0_5.length : Int) - 1))).f3) ((rd_T24 l0_5 (wrap64 ((l0_5.length : Int) - 1))).f4) ((rd_T24 l0_5 (wrap64 ((l0_5.length : Int) - 1))).f5)).bind fun t118 => (some t118)) else (none)) else (none))) else (some false))
theorem passepartoutref04_Open.mono_l : ∀ k, (∀ y0 y1 y2 y3 y4 y5, LeO (passepartoutref04_Open.f k y0 y1 y2 y3 y4 y5) (passepartoutref04_Open.f (k + 1) y0 y1 y2 y3 y4 y5))
 | 0 => fun _ _ _ _ _ _ r h => by simp [passepartoutref04_Open.f] at h
 | k + 1 => by
  have ih0 := passepartoutref04_Open.mono_l k
  ·intro y0 y1 y2 y3 y4 y5
   unfold passepartoutref04_Open.f
   repeat' first
   | (with_reducible exact ih0 _ _ _ _ _ _)
   | (with_reducible exact LeO.refl _)
   | (with_reducible exact LeO.none _)
   | (with_reducible refine LeO.ite ?_ ?_)
   | (with_reducible refine LeO.bind ?_ (fun _ => ?_))
   | exact ih0 _ _ _ _ _ _
   | exact LeO.none _
   | refine LeO.ite ?_ ?_
   | refine LeO.bind ?_ (fun _ => ?_)
theorem passepartoutref04_Open.mono : ∀ a0 a1 a2 a3 a4 a5 k, LeO (passepartoutref04_Open.f k a0 a1 a2 a3 a4 a5) (passepartoutref04_Open.f (k + 1) a0 a1 a2 a3 a4 a5) := by
 intro a0 a1 a2 a3 a4 a5 k
 have ih0 := passepartoutref04_Open.mono_l k
 exact ih0 a0 a1 a2 a3 a4 a5
set_option maxHeartbeats 8000000 in
set_option maxRecDepth 100000 in
theorem passepartoutref04_Open.calls (k : Nat) : ∀ (a0_0 : Int) (a0_1 : Int) (a0_2 : Int) (a0_3 : Int) (a0_4 : Int) (A0_5 : Option Addr) (c0_5 : Nat) (l0_5 : List (S24)) (r : Bool) (w : World) (hr0_5 : Kd.C k24 w A0_5 l0_5.length l0_5) (hc0_5 : l0_5.length ≤ c0_5) (h : passepartoutref04_Open.f k a0_0 a0_1 a0_2 a0_3 a0_4 l0_5 = some r),
  Calls Tryd.prog 18 #[.agg #[.int .i64 a0_0, .int .i64 a0_1, .int .i64 a0_2, .int .i64 a0_3, .int .i64 a0_4, .slice A0_5 l0_5.length c0_5]] w fun e w' => e = .returned (.bool r) ∧ Below w.heap.size w w' := by
 induction k using Nat.strongRecOn with
 | _ k ih =>
 intro a0_0 a0_1 a0_2 a0_3 a0_4 A0_5 c0_5 l0_5 r w hr0_5 hc0_5 h
 cases k with
 | zero => exact absurd h (by simp [passepartoutref04_Open.f])
 | succ k =>
 simp only [passepartoutref04_Open.f] at h
 have hu24 := Tryd.underlying24
 have HR0_5 := Aside0.mk hr0_5
 have HC0_5 := Aside0.mk hc0_5
 clear hr0_5 hc0_5
 have HB := Aside0.mk (Below.refl w.heap.size w)
 have H : (if a0_0 = 4 then (some true) else (if a0_0 = 3 then (if (l0_5.length : Int) = 0 then (some false) else (if 0 ≤ (wrap64 ((l0_5.length : Int) - 1)) then (if (wrap64 ((l0_5.length : Int) - 1)) < (l0_5.length : Int) then ((passepartoutref04_Open.f k ((rd_T24 l0_5 (wrap64 ((l0_5.length : Int) - 1))).f0) ((rd_T24 l0_5 (wrap64 ((l0_5.length : Int) - 1))).f1) ((rd_T24 l0_5 (wrap64 ((l0_5.length : Int) - 1))).f2) ((rd_T24 l0_5 (wrap64 ((l0_5.length : Int) - 1))).f3) ((rd_T24 l0_5 (wrap64 ((l0_5.length : Int) - 1))).f4) ((rd_T24 l0_5 (wrap64 ((l0_5.length : Int) - 1))).f5)).bind fun t118 => (some t118)) else (none)) else (none))) else (some false))) = some r := h
 clear h
 by_cases c2 : a0_0 = 4
 ·rw [if_pos c2] at H
  have c2b0 : (a0_0 == 4) = true := beq_iff_eq.mpr c2
  have c2b1 : (a0_0 != 4) = false := bne_eq_false_iff_eq.mpr c2
  clear c2
  obtain rfl := Option.some.inj H
  go_enter Tryd.func18, Tryd.ntmps18
  go_wp2_with (first | ((with_reducible refine gate_dst (N := 1) rfl ?_); (try (refine gate_guard (by rfl) ?_; dsimp only)); refine box_event ?hg (N := 1) ?hd (cs := #[.int .i64 a0_0, .int .i64 a0_1, .int .i64 a0_2, .int .i64 a0_3, .int .i64 a0_4, .slice A0_5 l0_5.length c0_5]) (t := 24) ?hr ?_; (case hd => rfl); (case hg => rfl); (case hr => first | (go_simp; done) | (go_simp; rfl)); intro gb116 hg w3 hbox hb; have n0_ := Aside0.mk (below_step (by repeat (first | (with_reducible first | exact HB.out | apply below_alloc | apply pw_below_drewN | apply below_drew1) | exact HB.out)) hb); have n1_ := Aside0.mk (hbox); have n2_ := Aside0.mk ((by rw [hg]; exact (below_size (by repeat (first | (with_reducible first | exact HB.out | apply below_alloc | apply pw_below_drewN | apply below_drew1) | exact HB.out))) : w.heap.size ≤ gb116)); have n3_ := Aside0.mk ((by rw [hg]; exact (below_size (by repeat (first | (with_reducible first | exact HB.out | apply below_alloc | apply pw_below_drewN | apply below_drew1) | exact HB.out))) : w.heap.size ≤ gb116)); clear HB; have HB := n0_; have BK116 := n1_; have GW116 := n2_; have GE116 := n3_; clear n0_ n1_ n2_ n3_; clear hb hbox hg; have hcz4_0 : w3.cell? ⟨gb116, 0, none⟩ = some (.int .i64 a0_0) := (blk_cell BK116.out 0).trans rfl; have hcz4_1 : w3.cell? ⟨gb116, 1, none⟩ = some (.int .i64 a0_1) := (blk_cell BK116.out 1).trans rfl; have hcz4_2 : w3.cell? ⟨gb116, 2, none⟩ = some (.int .i64 a0_2) := (blk_cell BK116.out 2).trans rfl; have hcz4_3 : w3.cell? ⟨gb116, 3, none⟩ = some (.int .i64 a0_3) := (blk_cell BK116.out 3).trans rfl; have hcz4_4 : w3.cell? ⟨gb116, 4, none⟩ = some (.int .i64 a0_4) := (blk_cell BK116.out 4).trans rfl; have hcz4_5 : w3.cell? ⟨gb116, 5, none⟩ = some (.slice A0_5 l0_5.length c0_5) := (blk_cell BK116.out 5).trans rfl; have hfz4_0 := blk_frozen BK116.out 0; have hfz4_1 := blk_frozen BK116.out 1; have hfz4_2 := blk_frozen BK116.out 2; have hfz4_3 := blk_frozen BK116.out 3; have hfz4_4 := blk_frozen BK116.out 4; have hfz4_5 := blk_frozen BK116.out 5))
  go_ret
  exact ⟨by first | rfl | (simp [errW_none, errW_some] <;> rfl) | (simp [*, errW_none, errW_some] <;> rfl), by repeat (first | (with_reducible first | exact HB.out | apply below_alloc | apply pw_below_drewN | apply below_drew1 | refine below_set ?_ GE116.out) | exact HB.out)⟩
 ·rw [if_neg c2] at H
  have c2b0 : (a0_0 == 4) = false := beq_eq_false_iff_ne.mpr c2
  have c2b1 : (a0_0 != 4) = true := bne_iff_ne.mpr c2
  by_cases c5 : a0_0 = 3
  ·rw [if_pos c5] at H
   have c5b0 : (a0_0 == 3) = true := beq_iff_eq.mpr c5
   have c5b1 : (a0_0 != 3) = false := bne_eq_false_iff_eq.mpr c5
   clear c5
   by_cases c6 : (l0_5.length : Int) = 0
   ·rw [if_pos c6] at H
    have c6b0 : ((l0_5.length : Int) == 0) = true := beq_iff_eq.mpr c6
    have c6b1 : ((l0_5.length : Int) != 0) = false := bne_eq_false_iff_eq.mpr c6
    clear c6
    obtain rfl := Option.some.inj H
    go_enter Tryd.func18, Tryd.ntmps18
    go_wp2_with (first | ((with_reducible refine gate_dst (N := 1) rfl ?_); (try (refine gate_guard (by rfl) ?_; dsimp only)); refine box_event ?hg (N := 1) ?hd (cs := #[.int .i64 a0_0, .int .i64 a0_1, .int .i64 a0_2, .int .i64 a0_3, .int .i64 a0_4, .slice A0_5 l0_5.length c0_5]) (t := 24) ?hr ?_; (case hd => rfl); (case hg => rfl); (case hr => first | (go_simp; done) | (go_simp; rfl)); intro gb116 hg w7 hbox hb; have n0_ := Aside0.mk (below_step (by repeat (first | (with_reducible first | exact HB.out | apply below_alloc | apply pw_below_drewN | apply below_drew1) | exact HB.out)) hb); have n1_ := Aside0.mk (hbox); have n2_ := Aside0.mk ((by rw [hg]; exact (below_size (by repeat (first | (with_reducible first | exact HB.out | apply below_alloc | apply pw_below_drewN | apply below_drew1) | exact HB.out))) : w.heap.size ≤ gb116)); have n3_ := Aside0.mk ((by rw [hg]; exact (below_size (by repeat (first | (with_reducible first | exact HB.out | apply below_alloc | apply pw_below_drewN | apply below_drew1) | exact HB.out))) : w.heap.size ≤ gb116)); clear HB; have HB := n0_; have BK116 := n1_; have GW116 := n2_; have GE116 := n3_; clear n0_ n1_ n2_ n3_; clear hb hbox hg; have hcz8_0 : w7.cell? ⟨gb116, 0, none⟩ = some (.int .i64 a0_0) := (blk_cell BK116.out 0).trans rfl; have hcz8_1 : w7.cell? ⟨gb116, 1, none⟩ = some (.int .i64 a0_1) := (blk_cell BK116.out 1).trans rfl; have hcz8_2 : w7.cell? ⟨gb116, 2, none⟩ = some (.int .i64 a0_2) := (blk_cell BK116.out 2).trans rfl; have hcz8_3 : w7.cell? ⟨gb116, 3, none⟩ = some (.int .i64 a0_3) := (blk_cell BK116.out 3).trans rfl; have hcz8_4 : w7.cell? ⟨gb116, 4, none⟩ = some (.int .i64 a0_4) := (blk_cell BK116.out 4).trans rfl; have hcz8_5 : w7.cell? ⟨gb116, 5, none⟩ = some (.slice A0_5 l0_5.length c0_5) := (blk_cell BK116.out 5).trans rfl; have hfz8_0 := blk_frozen BK116.out 0; have hfz8_1 := blk_frozen BK116.out 1; have hfz8_2 := blk_frozen BK116.out 2; have hfz8_3 := blk_frozen BK116.out 3; have hfz8_4 := blk_frozen BK116.out 4; have hfz8_5 := blk_frozen BK116.out 5))
    go_ret
    exact ⟨by first | rfl | (simp [errW_none, errW_some] <;> rfl) | (simp [*, errW_none, errW_some] <;> rfl), by repeat (first | (with_reducible first | exact HB.out | apply below_alloc | apply pw_below_drewN | apply below_drew1 | refine below_set ?_ GE116.out) | exact HB.out)⟩
   ·rw [if_neg c6] at H
    have c6b0 : ((l0_5.length : Int) == 0) = false := beq_eq_false_iff_ne.mpr c6
    have c6b1 : ((l0_5.length : Int) != 0) = true := bne_iff_ne.mpr c6
    have c6b2 : ¬ (l0_5 = []) := fun h_ => c6 (by rw [h_]; rfl)
    obtain ⟨ji9, hji9⟩ : ∃ j_ : Int, (wrap64 ((l0_5.length : Int) - 1)) = j_ := ⟨_, rfl⟩
    replace H : (if 0 ≤ (ji9) then (if (ji9) < (l0_5.length : Int) then ((passepartoutref04_Open.f k ((rd_T24 l0_5 (ji9)).f0) ((rd_T24 l0_5 (ji9)).f1) ((rd_T24 l0_5 (ji9)).f2) ((rd_T24 l0_5 (ji9)).f3) ((rd_T24 l0_5 (ji9)).f4) ((rd_T24 l0_5 (ji9)).f5)).bind fun t118 => (some t118)) else (none)) else (none)) = some r := by first | (rw [hji9] at H; exact H) | (simp only [hji9] at H ⊢; exact H)
    have hji9w : (IntKind.i64.wrap ((l0_5.length : Int) - 1)) = ji9 := (i64_w _).trans hji9
    by_cases c10 : 0 ≤ (ji9)
    ·rw [if_pos c10] at H
     have c10b0 : decide (0 ≤ (ji9)) = true := decide_eq_true c10
     clear c10
     by_cases c11 : (ji9) < (l0_5.length : Int)
     ·rw [if_pos c11] at H
      have c11b0 : decide ((ji9) < (l0_5.length : Int)) = true := decide_eq_true c11
      clear c11
      replace H := Option.bind_eq_some_iff.mp H
      obtain ⟨t118, A120, H⟩ := H
      replace H : (some t118) = some r := H
      have A12 := Aside0.mk A120
      clear A120
      obtain rfl := Option.some.inj H
      go_enter Tryd.func18, Tryd.ntmps18
      go_wp2_with (first | ((with_reducible refine gate_dst (N := 1) rfl ?_); (try (refine gate_guard (by rfl) ?_; dsimp only)); refine box_event ?hg (N := 1) ?hd (cs := #[.int .i64 a0_0, .int .i64 a0_1, .int .i64 a0_2, .int .i64 a0_3, .int .i64 a0_4, .slice A0_5 l0_5.length c0_5]) (t := 24) ?hr ?_; (case hd => rfl); (case hg => rfl); (case hr => first | (go_simp; done) | (go_simp; rfl)); intro gb116 hg w13 hbox hb; have n0_ := Aside0.mk (below_step (by repeat (first | (with_reducible first | exact HB.out | apply below_alloc | apply pw_below_drewN | apply below_drew1) | exact HB.out)) hb); have n1_ := Aside0.mk (hbox); have n2_ := Aside0.mk ((by rw [hg]; exact (below_size (by repeat (first | (with_reducible first | exact HB.out | apply below_alloc | apply pw_below_drewN | apply below_drew1) | exact HB.out))) : w.heap.size ≤ gb116)); have n3_ := Aside0.mk ((by rw [hg]; exact (below_size (by repeat (first | (with_reducible first | exact HB.out | apply below_alloc | apply pw_below_drewN | apply below_drew1) | exact HB.out))) : w.heap.size ≤ gb116)); clear HB; have HB := n0_; have BK116 := n1_; have GW116 := n2_; have GE116 := n3_; clear n0_ n1_ n2_ n3_; clear hb hbox hg; have hcz14_0 : w13.cell? ⟨gb116, 0, none⟩ = some (.int .i64 a0_0) := (blk_cell BK116.out 0).trans rfl; have hcz14_1 : w13.cell? ⟨gb116, 1, none⟩ = some (.int .i64 a0_1) := (blk_cell BK116.out 1).trans rfl; have hcz14_2 : w13.cell? ⟨gb116, 2, none⟩ = some (.int .i64 a0_2) := (blk_cell BK116.out 2).trans rfl; have hcz14_3 : w13.cell? ⟨gb116, 3, none⟩ = some (.int .i64 a0_3) := (blk_cell BK116.out 3).trans rfl; have hcz14_4 : w13.cell? ⟨gb116, 4, none⟩ = some (.int .i64 a0_4) := (blk_cell BK116.out 4).trans rfl; have hcz14_5 : w13.cell? ⟨gb116, 5, none⟩ = some (.slice A0_5 l0_5.length c0_5) := (blk_cell BK116.out 5).trans rfl; have hfz14_0 := blk_frozen BK116.out 0; have hfz14_1 := blk_frozen BK116.out 1; have hfz14_2 := blk_frozen BK116.out 2; have hfz14_3 := blk_frozen BK116.out 3; have hfz14_4 := blk_frozen BK116.out 4; have hfz14_5 := blk_frozen BK116.out 5; have p117 : 0 ≤ ((ji9) : Int) := of_decide_eq_true (by first | (with_reducible assumption) | assumption); have q117 : (ji9) < (l0_5.length : Int) := of_decide_eq_true (by first | (with_reducible assumption) | assumption); obtain ⟨ad117, A117_5, c117_5, e117, hx117_0, hx117_1, hx117_2, hx117_3, hx117_4, hx117_5, hl117_5, hi117_5⟩ := at_T24 HR0_5.out (ji9) p117 q117; cases e117; replace hx117_0 := (HB.out.cell (World.block_lt_of_cell? w _ hx117_0)).trans hx117_0; replace hx117_1 := (HB.out.cell (World.block_lt_of_cell? w _ hx117_1)).trans hx117_1; replace hx117_2 := (HB.out.cell (World.block_lt_of_cell? w _ hx117_2)).trans hx117_2; replace hx117_3 := (HB.out.cell (World.block_lt_of_cell? w _ hx117_3)).trans hx117_3; replace hx117_4 := (HB.out.cell (World.block_lt_of_cell? w _ hx117_4)).trans hx117_4; replace hx117_5 := (HB.out.cell (World.block_lt_of_cell? w _ hx117_5)).trans hx117_5; have HR117_5 := Aside0.mk hi117_5; have HC117_5 := Aside0.mk hl117_5; clear hi117_5 hl117_5; replace p117 := eq_true p117; replace q117 := eq_true q117) | ((with_reducible refine gate_callee (f := 18) rfl ?_); refine goesL_ (some 23) rfl rfl Tryd.func18 (by kernel_rfl) rfl #[.agg #[.int .i64 ((rd_T24 l0_5 (ji9)).f0), .int .i64 ((rd_T24 l0_5 (ji9)).f1), .int .i64 ((rd_T24 l0_5 (ji9)).f2), .int .i64 ((rd_T24 l0_5 (ji9)).f3), .int .i64 ((rd_T24 l0_5 (ji9)).f4), .slice A117_5 ((rd_T24 l0_5 (ji9)).f5).length c117_5]] rfl (by (try simp only [List.map_toArray, List.map_cons, List.map_nil]); first | done | (simp only [hji9]; rfl) | rfl | (simp only [List.length_drop, List.length_take]; rfl)) ?_; (with_reducible refine (ih k (by omega) ((rd_T24 l0_5 (ji9)).f0) ((rd_T24 l0_5 (ji9)).f1) ((rd_T24 l0_5 (ji9)).f2) ((rd_T24 l0_5 (ji9)).f3) ((rd_T24 l0_5 (ji9)).f4) _ _ ((rd_T24 l0_5 (ji9)).f5) t118 _ ?side1 ?side2 A12.out).mono ?_); (case side1 => repeat (first | exact (Kd.C_below HR117_5.out HB.out) | (with_reducible refine Kd.C_alloc ?_ _) | (with_reducible refine Kd.C_drewN ?_ _) | (with_reducible refine Kd.C_drew ?_))); (case side2 => exact HC117_5.out); rintro e w15 ⟨rfl, hb⟩; refine ⟨_, rfl, ?_⟩; have n0_ := Aside0.mk (blk_below (g := gb116) (o := .cells #[.int .i64 a0_0, .int .i64 a0_1, .int .i64 a0_2, .int .i64 a0_3, .int .i64 a0_4, .slice (some ad117) l0_5.length c0_5] 24 (0, 0)) (by (with_reducible repeat (first | refine blk_drewN ?_ _ | refine blk_drew ?_ | refine blk_alloc ?_ _)); exact BK116.out) hb); have n1_ := Aside0.mk (below_step (by repeat (first | (with_reducible first | exact HB.out | apply below_alloc | apply pw_below_drewN | apply below_drew1 | refine below_set ?_ GE116.out) | exact HB.out)) hb); clear BK116; clear HB; have BK116 := n0_; have HB := n1_; clear n0_ n1_; (try clear hb); (try clear hb2); (try clear hk); (try clear hi)))
      go_ret
      exact ⟨by first | rfl | (simp [errW_none, errW_some] <;> rfl) | (simp only [← hji9]; first | rfl | (simp [errW_none, errW_some] <;> rfl)) | (simp [*, errW_none, errW_some] <;> rfl), by repeat (first | (with_reducible first | exact HB.out | apply below_alloc | apply pw_below_drewN | apply below_drew1 | refine below_set ?_ GE116.out) | exact HB.out)⟩
     ·rw [if_neg c11] at H
      exact absurd H (by simp)
    ·rw [if_neg c10] at H
     exact absurd H (by simp)
  ·rw [if_neg c5] at H
   have c5b0 : (a0_0 == 3) = false := beq_eq_false_iff_ne.mpr c5
   have c5b1 : (a0_0 != 3) = true := bne_iff_ne.mpr c5
   obtain rfl := Option.some.inj H
   go_enter Tryd.func18, Tryd.ntmps18
   go_wp2_with (first | ((with_reducible refine gate_dst (N := 1) rfl ?_); (try (refine gate_guard (by rfl) ?_; dsimp only)); refine box_event ?hg (N := 1) ?hd (cs := #[.int .i64 a0_0, .int .i64 a0_1, .int .i64 a0_2, .int .i64 a0_3, .int .i64 a0_4, .slice A0_5 l0_5.length c0_5]) (t := 24) ?hr ?_; (case hd => rfl); (case hg => rfl); (case hr => first | (go_simp; done) | (go_simp; rfl)); intro gb116 hg w16 hbox hb; have n0_ := Aside0.mk (below_step (by repeat (first | (with_reducible first | exact HB.out | apply below_alloc | apply pw_below_drewN | apply below_drew1) | exact HB.out)) hb); have n1_ := Aside0.mk (hbox); have n2_ := Aside0.mk ((by rw [hg]; exact (below_size (by repeat (first | (with_reducible first | exact HB.out | apply below_alloc | apply pw_below_drewN | apply below_drew1) | exact HB.out))) : w.heap.size ≤ gb116)); have n3_ := Aside0.mk ((by rw [hg]; exact (below_size (by repeat (first | (with_reducible first | exact HB.out | apply below_alloc | apply pw_below_drewN | apply below_drew1) | exact HB.out))) : w.heap.size ≤ gb116)); clear HB; have HB := n0_; have BK116 := n1_; have GW116 := n2_; have GE116 := n3_; clear n0_ n1_ n2_ n3_; clear hb hbox hg; have hcz17_0 : w16.cell? ⟨gb116, 0, none⟩ = some (.int .i64 a0_0) := (blk_cell BK116.out 0).trans rfl; have hcz17_1 : w16.cell? ⟨gb116, 1, none⟩ = some (.int .i64 a0_1) := (blk_cell BK116.out 1).trans rfl; have hcz17_2 : w16.cell? ⟨gb116, 2, none⟩ = some (.int .i64 a0_2) := (blk_cell BK116.out 2).trans rfl; have hcz17_3 : w16.cell? ⟨gb116, 3, none⟩ = some (.int .i64 a0_3) := (blk_cell BK116.out 3).trans rfl; have hcz17_4 : w16.cell? ⟨gb116, 4, none⟩ = some (.int .i64 a0_4) := (blk_cell BK116.out 4).trans rfl; have hcz17_5 : w16.cell? ⟨gb116, 5, none⟩ = some (.slice A0_5 l0_5.length c0_5) := (blk_cell BK116.out 5).trans rfl; have hfz17_0 := blk_frozen BK116.out 0; have hfz17_1 := blk_frozen BK116.out 1; have hfz17_2 := blk_frozen BK116.out 2; have hfz17_3 := blk_frozen BK116.out 3; have hfz17_4 := blk_frozen BK116.out 4; have hfz17_5 := blk_frozen BK116.out 5))
   go_ret
   exact ⟨by first | rfl | (simp [errW_none, errW_some] <;> rfl) | (simp [*, errW_none, errW_some] <;> rfl), by repeat (first | (with_reducible first | exact HB.out | apply below_alloc | apply pw_below_drewN | apply below_drew1 | refine below_set ?_ GE116.out) | exact HB.out)⟩

end Go.Proofs.YtdhnfccgojgehaaDoor.QP

namespace Go.Proofs.YtdhnfccgojgehaaDoor
open Go.RowKit

set_option maxRecDepth 100000 in
theorem rtop_any (s : Int) (hs : s = 1 ∨ s = 2 ∨ s = 3) (w : World) : Calls Tryd.prog 61 #[.int .i64 s] w fun e w' => e = .returned (.int .i64 (256 ^ s.toNat - 1)) ∧ w' = w := by
 rcases hs with rfl | rfl | rfl
 all_goals
  go_enter Tryd.func61, Tryd.ntmps61
  go_wp2_with fail
  refine wp_loop_rounds 5 ?_
  iterate 5 (first | (rw [rounds_succ]; go_wp2_with fail) | skip)
  go_ret
  exact ⟨by first | rfl | (congr 2), rfl⟩
set_option maxRecDepth 100000 in
set_option maxHeartbeats 6400000 in
theorem rown_any (ok : Nat → Prop) (v : Value) (f : Fm) (w : World) (hv : FmR w ok v f) :
  Calls Tryd.prog 46 #[v] w fun e w' => e = .returned (.int .i64 (ownR f)) ∧ Kp (fun _ => False) w w' := by
 obtain ⟨⟨k, s, lo, hi, st⟩, ps⟩ := f
 obtain ⟨r, hr⟩ : ∃ r, ownR (.mk ⟨k, s, lo, hi, st⟩ ps) = r := ⟨_, rfl⟩
 rw [hr]
 have hr' : ownN k s lo hi st ps.length = r := hr
 clear hr
 obtain ⟨A, c, rfl, h1, h2, _, _, _, _, _, _⟩ := hv.parts
 clear hv
 have hk1 := (Kp.refl (fun _ => False) w).alloc (.cells #[.int .i64 k, .int .i64 s, .int .i64 lo, .int .i64 hi, .int .i64 st, .slice A ps.length c] 24)
 have HK := Lib.hid (fun n => hk1.drewN n)
 have HK0 := Lib.hid hk1
 clear hk1
 unfold ownN at hr'
 by_cases kl : k < 0
 ·rw [if_neg (by omega), if_neg (by omega), if_neg (by omega), if_neg (by omega), if_neg (by omega)] at hr'
  subst hr'
  have t : decide (k < 0) = true := decide_eq_true kl
  clear kl
  go_enter Tryd.func46, Tryd.ntmps46
  go_wp2_with fail
  go_ret
  exact ⟨rfl, HK0.out⟩
 by_cases kg : 5 < k
 ·rw [if_neg (by omega), if_neg (by omega), if_neg (by omega), if_neg (by omega), if_neg (by omega)] at hr'
  subst hr'
  have t : decide (k < 0) = false := decide_eq_false kl
  have t2 : decide (5 < k) = true := decide_eq_true kg
  clear kl kg
  go_enter Tryd.func46, Tryd.ntmps46
  go_wp2_with fail
  go_ret
  exact ⟨rfl, HK0.out⟩
 by_cases k0 : k = 0
 ·subst k0
  rw [if_pos rfl] at hr'
  clear kl kg
  by_cases s1 : s = 1
  ·subst s1
   obtain rfl : (0 : Int) = r := by simpa using hr'
   go_enter Tryd.func46, Tryd.ntmps46
   go_wp2_with fail
   go_ret
   exact ⟨rfl, HK0.out⟩
  by_cases s2 : s = 2
  ·subst s2
   obtain rfl : (0 : Int) = r := by simpa using hr'
   go_enter Tryd.func46, Tryd.ntmps46
   go_wp2_with fail
   go_ret
   exact ⟨rfl, HK0.out⟩
  by_cases s3 : s = 3
  ·subst s3
   obtain rfl : (0 : Int) = r := by simpa using hr'
   go_enter Tryd.func46, Tryd.ntmps46
   go_wp2_with fail
   go_ret
   exact ⟨rfl, HK0.out⟩
  by_cases s4 : s = 4
  ·subst s4
   obtain rfl : (0 : Int) = r := by simpa using hr'
   go_enter Tryd.func46, Tryd.ntmps46
   go_wp2_with fail
   go_ret
   exact ⟨rfl, HK0.out⟩
  by_cases s8 : s = 8
  ·subst s8
   obtain rfl : (0 : Int) = r := by simpa using hr'
   go_enter Tryd.func46, Tryd.ntmps46
   go_wp2_with fail
   go_ret
   exact ⟨rfl, HK0.out⟩
  rw [if_pos (by omega)] at hr'
  subst hr'
  have t1 : (s != 1) = true := by simpa using s1
  have t2 : (s != 2) = true := by simpa using s2
  have t3 : (s != 3) = true := by simpa using s3
  have t4 : (s != 4) = true := by simpa using s4
  have t8 : (s != 8) = true := by simpa using s8
  clear s1 s2 s3 s4 s8
  go_enter Tryd.func46, Tryd.ntmps46
  go_wp2_with fail
  go_ret
  exact ⟨rfl, HK0.out⟩
 rw [if_neg k0] at hr'
 by_cases k12 : k = 2 ∨ k = 1
 ·rw [if_pos k12] at hr'
  have tl : decide (k < 0) = false := decide_eq_false kl
  have tg : decide (5 < k) = false := decide_eq_false kg
  have t0 : (k == 0) = false := by simpa using k0
  have t4 : (k == 4) = false := by simp; omega
  have t5 : (k == 5) = false := by simp; omega
  have t3 : (k == 3) = false := by simp; omega
  have hlen : ((ps.length : Int) != 1) = decide (ps.length ≠ 1) := by rw [Bool.eq_iff_iff]; simp; omega
  have htk : ((k == 1) = true ∧ (k == 2) = false ∧ k ≠ 2) ∨ ((k == 1) = false ∧ (k == 2) = true ∧ k = 2) := by
   rcases k12 with rfl | rfl
   ·exact .inr ⟨by simp, by simp, rfl⟩
   ·exact .inl ⟨by simp, by simp, by omega⟩
  clear kl kg k0 k12
  by_cases s1 : s < 1
  ·have u1 : decide (s < 1) = true := decide_eq_true s1
   rw [if_pos (.inl s1)] at hr'
   subst hr'
   clear s1
   rcases htk with ⟨t1, t2, _⟩ | ⟨t1, t2, rfl⟩
   all_goals
    go_enter Tryd.func46, Tryd.ntmps46
    go_wp2_with fail
    go_ret
    exact ⟨rfl, HK0.out⟩
  have u1 : decide (s < 1) = false := decide_eq_false s1
  by_cases s3 : 3 < s
  ·have u3 : decide (3 < s) = true := decide_eq_true s3
   rw [if_pos (.inr s3)] at hr'
   subst hr'
   clear s1 s3
   rcases htk with ⟨t1, t2, _⟩ | ⟨t1, t2, rfl⟩
   all_goals
    go_enter Tryd.func46, Tryd.ntmps46
    go_wp2_with fail
    go_ret
    exact ⟨rfl, HK0.out⟩
  have u3 : decide (3 < s) = false := decide_eq_false s3
  rw [if_neg (by omega)] at hr'
  have HT := Lib.hid (fun W => rtop_any s (by omega) W)
  clear s1 s3
  generalize (256 : Int) ^ s.toNat - 1 = M at HT hr'
  have hb : boundsR lo hi M = if lo < 0 ∨ hi < lo ∨ M < hi then 5 else 0 := rfl
  by_cases a1 : lo < 0
  ·have e5 : boundsR lo hi M = 5 := by rw [hb, if_pos (.inl a1)]
   rw [if_pos (.inl (by omega))] at hr'
   subst hr'
   have v1 : decide (lo < 0) = true := decide_eq_true a1
   clear a1 hb e5
   rcases htk with ⟨t1, t2, _⟩ | ⟨t1, t2, rfl⟩
   all_goals
    go_enter Tryd.func46, Tryd.ntmps46
    go_wp2_with fail
    go_quiet ((go_at_call 61; exact Calls.quiet_of_same (HT.out _)))
    go_wp2_with fail
    go_ret
    exact ⟨rfl, HK.out _⟩
  have v1 : decide (lo < 0) = false := decide_eq_false a1
  by_cases a2 : hi < lo
  ·have e5 : boundsR lo hi M = 5 := by rw [hb, if_pos (.inr (.inl a2))]
   rw [if_pos (.inl (by omega))] at hr'
   subst hr'
   have v2 : decide (hi < lo) = true := decide_eq_true a2
   clear a1 a2 hb e5
   rcases htk with ⟨t1, t2, _⟩ | ⟨t1, t2, rfl⟩
   all_goals
    go_enter Tryd.func46, Tryd.ntmps46
    go_wp2_with fail
    go_quiet ((go_at_call 61; exact Calls.quiet_of_same (HT.out _)))
    go_wp2_with fail
    go_ret
    exact ⟨rfl, HK.out _⟩
  have v2 : decide (hi < lo) = false := decide_eq_false a2
  by_cases a3 : M < hi
  ·have e5 : boundsR lo hi M = 5 := by rw [hb, if_pos (.inr (.inr a3))]
   rw [if_pos (.inl (by omega))] at hr'
   subst hr'
   have v3 : decide (M < hi) = true := decide_eq_true a3
   clear a1 a2 a3 hb e5
   rcases htk with ⟨t1, t2, _⟩ | ⟨t1, t2, rfl⟩
   all_goals
    go_enter Tryd.func46, Tryd.ntmps46
    go_wp2_with fail
    go_quiet ((go_at_call 61; exact Calls.quiet_of_same (HT.out _)))
    go_wp2_with fail
    go_ret
    exact ⟨rfl, HK.out _⟩
  have v3 : decide (M < hi) = false := decide_eq_false a3
  have e0 : boundsR lo hi M = 0 := by rw [hb, if_neg (by omega)]
  by_cases a4 : st < 1
  ·rw [if_pos (.inr (.inl a4))] at hr'
   subst hr'
   have v4 : decide (st < 1) = true := decide_eq_true a4
   clear a1 a2 a3 a4 hb e0
   rcases htk with ⟨t1, t2, _⟩ | ⟨t1, t2, rfl⟩
   all_goals
    go_enter Tryd.func46, Tryd.ntmps46
    go_wp2_with fail
    go_quiet ((go_at_call 61; exact Calls.quiet_of_same (HT.out _)))
    go_wp2_with fail
    go_ret
    exact ⟨rfl, HK.out _⟩
  have v4 : decide (st < 1) = false := decide_eq_false a4
  by_cases a5 : 65536 < st
  ·rw [if_pos (.inr (.inr a5))] at hr'
   subst hr'
   have v5 : decide (65536 < st) = true := decide_eq_true a5
   clear a1 a2 a3 a4 a5 hb e0
   rcases htk with ⟨t1, t2, _⟩ | ⟨t1, t2, rfl⟩
   all_goals
    go_enter Tryd.func46, Tryd.ntmps46
    go_wp2_with fail
    go_quiet ((go_at_call 61; exact Calls.quiet_of_same (HT.out _)))
    go_wp2_with fail
    go_ret
    exact ⟨rfl, HK.out _⟩
  have v5 : decide (65536 < st) = false := decide_eq_false a5
  rw [if_neg (by omega)] at hr'
  clear a1 a2 a3 a4 a5 hb e0
  rcases htk with ⟨t1, t2, k2⟩ | ⟨t1, t2, rfl⟩
  ·rw [if_neg (fun h => k2 h.1)] at hr'
   subst hr'
   clear k2 hlen
   go_enter Tryd.func46, Tryd.ntmps46
   go_wp2_with fail
   go_quiet ((go_at_call 61; exact Calls.quiet_of_same (HT.out _)))
   go_wp2_with fail
   go_ret
   exact ⟨rfl, HK.out _⟩
  ·by_cases hl : ps.length = 1
   ·rw [if_neg (fun h => h.2 hl)] at hr'
    subst hr'
    rw [decide_eq_false (by simpa using hl)] at hlen
    clear hl
    go_enter Tryd.func46, Tryd.ntmps46
    go_wp2_with fail
    go_quiet ((go_at_call 61; exact Calls.quiet_of_same (HT.out _)))
    go_wp2_with fail
    go_ret
    exact ⟨rfl, HK.out _⟩
   ·rw [if_pos ⟨rfl, hl⟩] at hr'
    subst hr'
    rw [decide_eq_true hl] at hlen
    clear hl
    go_enter Tryd.func46, Tryd.ntmps46
    go_wp2_with fail
    go_quiet ((go_at_call 61; exact Calls.quiet_of_same (HT.out _)))
    go_wp2_with fail
    go_ret
    exact ⟨rfl, HK.out _⟩
 rw [if_neg k12] at hr'
 by_cases k3 : k = 3
 ·subst k3
  rw [if_pos rfl] at hr'
  clear kl kg k0 k12
  have hlen : decide (32 < (ps.length : Int)) = decide (32 < ps.length) := by rw [Bool.eq_iff_iff]; simp; omega
  by_cases hl : 32 < ps.length
  ·rw [if_pos hl] at hr'
   subst hr'
   rw [decide_eq_true hl] at hlen
   have hl2 : decide (32 < ps.length) = true := decide_eq_true hl
   clear hl
   go_enter Tryd.func46, Tryd.ntmps46
   go_wp2_with fail
   go_ret
   exact ⟨rfl, HK0.out⟩
  ·rw [if_neg hl] at hr'
   subst hr'
   rw [decide_eq_false hl] at hlen
   have hl2 : decide (32 < ps.length) = false := decide_eq_false hl
   clear hl
   go_enter Tryd.func46, Tryd.ntmps46
   go_wp2_with fail
   go_ret
   exact ⟨rfl, HK0.out⟩
 rw [if_neg k3] at hr'
 have hb : ∀ x y M : Int, boundsR x y M = if x < 0 ∨ y < x ∨ M < y then 5 else 0 := fun _ _ _ => rfl
 by_cases k4 : k = 4
 ·subst k4
  rw [if_pos rfl, hb] at hr'
  clear kl kg k0 k12 k3 hb
  by_cases a1 : lo < 0
  ·rw [if_pos (.inl a1)] at hr'
   subst hr'
   have v1 : decide (lo < 0) = true := decide_eq_true a1
   clear a1
   go_enter Tryd.func46, Tryd.ntmps46
   go_wp2_with fail
   go_ret
   exact ⟨rfl, HK0.out⟩
  have v1 : decide (lo < 0) = false := decide_eq_false a1
  by_cases a2 : hi < lo
  ·rw [if_pos (.inr (.inl a2))] at hr'
   subst hr'
   have v2 : decide (hi < lo) = true := decide_eq_true a2
   clear a1 a2
   go_enter Tryd.func46, Tryd.ntmps46
   go_wp2_with fail
   go_ret
   exact ⟨rfl, HK0.out⟩
  have v2 : decide (hi < lo) = false := decide_eq_false a2
  by_cases a3 : 16777215 < hi
  ·rw [if_pos (.inr (.inr a3))] at hr'
   subst hr'
   have v3 : decide (16777215 < hi) = true := decide_eq_true a3
   clear a1 a2 a3
   go_enter Tryd.func46, Tryd.ntmps46
   go_wp2_with fail
   go_ret
   exact ⟨rfl, HK0.out⟩
  have v3 : decide (16777215 < hi) = false := decide_eq_false a3
  rw [if_neg (by omega)] at hr'
  subst hr'
  clear a1 a2 a3
  go_enter Tryd.func46, Tryd.ntmps46
  go_wp2_with fail
  go_ret
  exact ⟨rfl, HK0.out⟩
 rw [if_neg k4] at hr'
 obtain rfl : k = 5 := by omega
 rw [if_pos rfl, hb] at hr'
 clear kl kg k0 k12 k3 k4 hb
 by_cases a1 : lo < 0
 ·rw [if_pos (.inl a1)] at hr'
  subst hr'
  have v1 : decide (lo < 0) = true := decide_eq_true a1
  clear a1
  go_enter Tryd.func46, Tryd.ntmps46
  go_wp2_with fail
  go_ret
  exact ⟨rfl, HK0.out⟩
 have v1 : decide (lo < 0) = false := decide_eq_false a1
 by_cases a3 : 16777215 < lo
 ·rw [if_pos (.inr (.inr a3))] at hr'
  subst hr'
  have v3 : decide (16777215 < lo) = true := decide_eq_true a3
  clear a1 a3
  go_enter Tryd.func46, Tryd.ntmps46
  go_wp2_with fail
  go_ret
  exact ⟨rfl, HK0.out⟩
 have v3 : decide (16777215 < lo) = false := decide_eq_false a3
 rw [if_neg (by omega)] at hr'
 subst hr'
 clear a1 a3
 go_enter Tryd.func46, Tryd.ntmps46
 go_wp2_with fail
 go_ret
 exact ⟨rfl, HK0.out⟩
end Go.Proofs.YtdhnfccgojgehaaDoor

namespace Go.Proofs.YtdhnfccgojgehaaDoor.QP
open Go.RowKit Go.Proofs.YtdhnfccgojgehaaDoorW.PrintWords Go.Proofs.YtdhnfccgojgehaaDoorW.PrintLast Go.Proofs.YtdhnfccgojgehaaDoorW.PrintMore
attribute [local go_sem] max2_int min2_int max_two min_two max_three min_three max_four min_four   -- for this text's walks alone
set_option linter.unusedVariables false
set_option linter.unusedSimpArgs false

/-! ### passepartoutref04_own: function 46 -/
def passepartoutref04_own.f (a0_0 : Int) (a0_1 : Int) (a0_2 : Int) (a0_3 : Int) (a0_4 : Int) (l0_5 : List (S24)) : Option (Int) := if wfF (toF ⟨a0_0, a0_1, a0_2, a0_3, a0_4, l0_5⟩) = true then some (ownR (toF ⟨a0_0, a0_1, a0_2, a0_3, a0_4, l0_5⟩)) else none
set_option maxHeartbeats 8000000 in
set_option maxRecDepth 100000 in
theorem passepartoutref04_own.calls (a0_0 : Int) (a0_1 : Int) (a0_2 : Int) (a0_3 : Int) (a0_4 : Int) (A0_5 : Option Addr) (c0_5 : Nat) (l0_5 : List (S24)) (r : Int) (w : World) (hr0_5 : Kd.C k24 w A0_5 l0_5.length l0_5) (hc0_5 : l0_5.length ≤ c0_5) (h : passepartoutref04_own.f a0_0 a0_1 a0_2 a0_3 a0_4 l0_5 = some r) :
  Calls Tryd.prog 46 #[.agg #[.int .i64 a0_0, .int .i64 a0_1, .int .i64 a0_2, .int .i64 a0_3, .int .i64 a0_4, .slice A0_5 l0_5.length c0_5]] w fun e w' => e = .returned (.int .i64 r) ∧ Below w.heap.size w w' := by
 unfold passepartoutref04_own.f at h
 split at h
 ·rename_i hw
  injection h with h
  subst h
  exact (rown_any (fun x => x < w.heap.size) _ (toF ⟨a0_0, a0_1, a0_2, a0_3, a0_4, l0_5⟩) w (c_FmR hr0_5 hc0_5 hw)).mono fun e w' h => ⟨h.1, h.2.below⟩
 ·cases h

end Go.Proofs.YtdhnfccgojgehaaDoor.QP

namespace Go.Proofs.YtdhnfccgojgehaaDoor.QP
open Go.RowKit Go.Proofs.YtdhnfccgojgehaaDoorW.PrintWords Go.Proofs.YtdhnfccgojgehaaDoorW.PrintLast Go.Proofs.YtdhnfccgojgehaaDoorW.PrintMore
attribute [local go_sem] max2_int min2_int max_two min_two max_three min_three max_four min_four   -- for this text's walks alone
set_option linter.unusedVariables false
set_option linter.unusedSimpArgs false

/-! ### passepartoutref04_check: function 30 -/
mutual
def passepartoutref04_check.l0 : Nat → List (S24) → Int → Int → Int → Int → Int → Int → List (S24) → Option (Int)
 | 0, _, _, _, _, _, _, _, _ => none
 | k + 1, x4, x5, x120000, x120001, x120002, x120003, x120004, x120005 => if x5 < (x4.length : Int) then (if 0 ≤ x5 then ((passepartoutref04_check.f k ((rd_T24 x4 x5).f0) ((rd_T24 x4 x5).f1) ((rd_T24 x4 x5).f2) ((rd_T24 x4 x5).f3) ((rd_T24 x4 x5).f4) ((rd_T24 x4 x5).f5)).bind fun t125 => (if t125 = 0 then (passepartoutref04_check.l0 k x4 (wrap64 (x5 + 1)) x120000 x120001 x120002 x120003 x120004 x120005) else (some t125))) else (none)) else (passepartoutref04_check.l1 k x4 0 x120000 x120001 x120002 x120003 x120004 x120005)
def passepartoutref04_check.l1 : Nat → List (S24) → Int → Int → Int → Int → Int → Int → List (S24) → Option (Int)
 | 0, _, _, _, _, _, _, _, _ => none
 | k + 1, x4, x6, x120000, x120001, x120002, x120003, x120004, x120005 => if x6 < (x4.length : Int) then (if 0 ≤ x6 then ((passepartoutref04_Open.f k ((rd_T24 x4 x6).f0) ((rd_T24 x4 x6).f1) ((rd_T24 x4 x6).f2) ((rd_T24 x4 x6).f3) ((rd_T24 x4 x6).f4) ((rd_T24 x4 x6).f5)).bind fun t127 => (if t127 = true then (if x120000 = 2 then (some 15) else (if (wrap64 (x6 + 1)) < (x4.length : Int) then (some 15) else (passepartoutref04_check.l1 k x4 (wrap64 (x6 + 1)) x120000 x120001 x120002 x120003 x120004 x120005))) else (passepartoutref04_check.l1 k x4 (wrap64 (x6 + 1)) x120000 x120001 x120002 x120003 x120004 x120005))) else (none)) else (if x120000 = 2 then (if 0 < (x4.length : Int) then ((passepartoutref04_Least.f k ((rd_T24 x4 0).f0) ((rd_T24 x4 0).f1) ((rd_T24 x4 0).f2) ((rd_T24 x4 0).f3) ((rd_T24 x4 0).f4) ((rd_T24 x4 0).f5)).bind fun t129 => (if t129 = 0 then (some 15) else (some 0))) else (none)) else (some 0))
def passepartoutref04_check.f : Nat → Int → Int → Int → Int → Int → List (S24) → Option (Int)
 | 0, _, _, _, _, _, _ => none
 | k + 1, a0_0, a0_1, a0_2, a0_3, a0_4, l0_5 => (passepartoutref04_own.f a0_0 a0_1 a0_2 a0_3 a0_4 l0_5).bind fun t120 => (if t120 = 0 then ((passepartoutref04_parts.f a0_0 a0_1 a0_2 a0_3 a0_4 l0_5).bind fun t121 => (passepartoutref04_check.l0 k t121 0 a0_0 a0_1 a0_2 a0_3 a0_4 l0_5)) else (some t120))
end
theorem passepartoutref04_check.mono_l : ∀ k, (∀ y0 y1 y2 y3 y4 y5, LeO (passepartoutref04_check.f k y0 y1 y2 y3 y4 y5) (passepartoutref04_check.f (k + 1) y0 y1 y2 y3 y4 y5)) ∧ (∀ y0 y1 y2 y3 y4 y5 y6 y7, LeO (passepartoutref04_check.l0 k y0 y1 y2 y3 y4 y5 y6 y7) (passepartoutref04_check.l0 (k + 1) y0 y1 y2 y3 y4 y5 y6 y7)) ∧ (∀ y0 y1 y2 y3 y4 y5 y6 y7, LeO (passepartoutref04_check.l1 k y0 y1 y2 y3 y4 y5 y6 y7) (passepartoutref04_check.l1 (k + 1) y0 y1 y2 y3 y4 y5 y6 y7))
 | 0 => ⟨fun _ _ _ _ _ _ r h => by simp [passepartoutref04_check.f] at h, fun _ _ _ _ _ _ _ _ r h => by simp [passepartoutref04_check.l0] at h, fun _ _ _ _ _ _ _ _ r h => by simp [passepartoutref04_check.l1] at h⟩
 | k + 1 => by
  obtain ⟨ih0, ih1, ih2⟩ := passepartoutref04_check.mono_l k
  refine ⟨?_, ?_, ?_⟩
  ·intro y0 y1 y2 y3 y4 y5
   unfold passepartoutref04_check.f
   repeat' first
   | (with_reducible exact ih0 _ _ _ _ _ _)
   | (with_reducible exact ih1 _ _ _ _ _ _ _ _)
   | (with_reducible exact ih2 _ _ _ _ _ _ _ _)
   | (with_reducible exact passepartoutref04_Least.mono _ _ _ _ _ _ _)
   | (with_reducible exact passepartoutref04_Open.mono _ _ _ _ _ _ _)
   | (with_reducible exact LeO.refl _)
   | (with_reducible exact LeO.none _)
   | (with_reducible refine LeO.ite ?_ ?_)
   | (with_reducible refine LeO.bind ?_ (fun _ => ?_))
   | exact ih0 _ _ _ _ _ _
   | exact ih1 _ _ _ _ _ _ _ _
   | exact ih2 _ _ _ _ _ _ _ _
   | exact passepartoutref04_Least.mono _ _ _ _ _ _ _
   | exact passepartoutref04_Open.mono _ _ _ _ _ _ _
   | exact LeO.none _
   | refine LeO.ite ?_ ?_
   | refine LeO.bind ?_ (fun _ => ?_)
  ·intro y0 y1 y2 y3 y4 y5 y6 y7
   unfold passepartoutref04_check.l0
   repeat' first
   | (with_reducible exact ih0 _ _ _ _ _ _)
   | (with_reducible exact ih1 _ _ _ _ _ _ _ _)
   | (with_reducible exact ih2 _ _ _ _ _ _ _ _)
   | (with_reducible exact passepartoutref04_Least.mono _ _ _ _ _ _ _)
   | (with_reducible exact passepartoutref04_Open.mono _ _ _ _ _ _ _)
   | (with_reducible exact LeO.refl _)
   | (with_reducible exact LeO.none _)
   | (with_reducible refine LeO.ite ?_ ?_)
   | (with_reducible refine LeO.bind ?_ (fun _ => ?_))
   | exact ih0 _ _ _ _ _ _
   | exact ih1 _ _ _ _ _ _ _ _
   | exact ih2 _ _ _ _ _ _ _ _
   | exact passepartoutref04_Least.mono _ _ _ _ _ _ _
   | exact passepartoutref04_Open.mono _ _ _ _ _ _ _
   | exact LeO.none _
   | refine LeO.ite ?_ ?_
   | refine LeO.bind ?_ (fun _ => ?_)
  ·intro y0 y1 y2 y3 y4 y5 y6 y7
   unfold passepartoutref04_check.l1
   repeat' first
   | (with_reducible exact ih0 _ _ _ _ _ _)
   | (with_reducible exact ih1 _ _ _ _ _ _ _ _)
   | (with_reducible exact ih2 _ _ _ _ _ _ _ _)
   | (with_reducible exact passepartoutref04_Least.mono _ _ _ _ _ _ _)
   | (with_reducible exact passepartoutref04_Open.mono _ _ _ _ _ _ _)
   | (with_reducible exact LeO.refl _)
   | (with_reducible exact LeO.none _)
   | (with_reducible refine LeO.ite ?_ ?_)
   | (with_reducible refine LeO.bind ?_ (fun _ => ?_))
   | exact ih0 _ _ _ _ _ _
   | exact ih1 _ _ _ _ _ _ _ _
   | exact ih2 _ _ _ _ _ _ _ _
   | exact passepartoutref04_Least.mono _ _ _ _ _ _ _
   | exact passepartoutref04_Open.mono _ _ _ _ _ _ _
   | exact LeO.none _
   | refine LeO.ite ?_ ?_
   | refine LeO.bind ?_ (fun _ => ?_)
theorem passepartoutref04_check.mono : ∀ a0 a1 a2 a3 a4 a5 k, LeO (passepartoutref04_check.f k a0 a1 a2 a3 a4 a5) (passepartoutref04_check.f (k + 1) a0 a1 a2 a3 a4 a5) := by
 intro a0 a1 a2 a3 a4 a5 k
 obtain ⟨ih0, ih1, ih2⟩ := passepartoutref04_check.mono_l k
 exact ih0 a0 a1 a2 a3 a4 a5
set_option maxHeartbeats 8000000 in
set_option maxRecDepth 100000 in
theorem passepartoutref04_check.calls (k : Nat) : ∀ (a0_0 : Int) (a0_1 : Int) (a0_2 : Int) (a0_3 : Int) (a0_4 : Int) (A0_5 : Option Addr) (c0_5 : Nat) (l0_5 : List (S24)) (r : Int) (w : World) (hr0_5 : Kd.C k24 w A0_5 l0_5.length l0_5) (hc0_5 : l0_5.length ≤ c0_5) (h : passepartoutref04_check.f k a0_0 a0_1 a0_2 a0_3 a0_4 l0_5 = some r),
  Calls Tryd.prog 30 #[.agg #[.int .i64 a0_0, .int .i64 a0_1, .int .i64 a0_2, .int .i64 a0_3, .int .i64 a0_4, .slice A0_5 l0_5.length c0_5]] w fun e w' => e = .returned (.int .i64 r) ∧ Below w.heap.size w w' := by
 induction k using Nat.strongRecOn with
 | _ k ih =>
 intro a0_0 a0_1 a0_2 a0_3 a0_4 A0_5 c0_5 l0_5 r w hr0_5 hc0_5 h
 cases k with
 | zero => exact absurd h (by simp [passepartoutref04_check.f])
 | succ k =>
 simp only [passepartoutref04_check.f] at h
 have hu24 := Tryd.underlying24
 have HR0_5 := Aside0.mk hr0_5
 have HC0_5 := Aside0.mk hc0_5
 clear hr0_5 hc0_5
 have HB := Aside0.mk (Below.refl w.heap.size w)
 have H : ((passepartoutref04_own.f a0_0 a0_1 a0_2 a0_3 a0_4 l0_5).bind fun t120 => (if t120 = 0 then ((passepartoutref04_parts.f a0_0 a0_1 a0_2 a0_3 a0_4 l0_5).bind fun t121 => (passepartoutref04_check.l0 k t121 0 a0_0 a0_1 a0_2 a0_3 a0_4 l0_5)) else (some t120))) = some r := h
 clear h
 replace H := Option.bind_eq_some_iff.mp H
 obtain ⟨t120, A20, H⟩ := H
 replace H : (if t120 = 0 then ((passepartoutref04_parts.f a0_0 a0_1 a0_2 a0_3 a0_4 l0_5).bind fun t121 => (passepartoutref04_check.l0 k t121 0 a0_0 a0_1 a0_2 a0_3 a0_4 l0_5)) else (some t120)) = some r := H
 have A2 := Aside0.mk A20
 clear A20
 by_cases c3 : t120 = 0
 ·rw [if_pos c3] at H
  have c3b0 : (t120 == 0) = true := beq_iff_eq.mpr c3
  have c3b1 : (t120 != 0) = false := bne_eq_false_iff_eq.mpr c3
  clear c3
  replace H := Option.bind_eq_some_iff.mp H
  obtain ⟨t121, A40, H⟩ := H
  replace H : (passepartoutref04_check.l0 k t121 0 a0_0 a0_1 a0_2 a0_3 a0_4 l0_5) = some r := H
  have A4 := Aside0.mk A40
  clear A40
  have H' := Aside0.mk H
  clear H
  go_enter Tryd.func30, Tryd.ntmps30
  go_wp2_with (first | ((with_reducible refine gate_dst (N := 1) rfl ?_); (try (refine gate_guard (by rfl) ?_; dsimp only)); refine box_event ?hg (N := 1) ?hd (cs := #[.int .i64 a0_0, .int .i64 a0_1, .int .i64 a0_2, .int .i64 a0_3, .int .i64 a0_4, .slice A0_5 l0_5.length c0_5]) (t := 24) ?hr ?_; (case hd => rfl); (case hg => rfl); (case hr => first | (go_simp; done) | (go_simp; rfl)); intro gb119 hg w5 hbox hb; have n0_ := Aside0.mk (below_step (by repeat (first | (with_reducible first | exact HB.out | apply below_alloc | apply pw_below_drewN | apply below_drew1) | exact HB.out)) hb); have n1_ := Aside0.mk (hbox); have n2_ := Aside0.mk ((by rw [hg]; exact (below_size (by repeat (first | (with_reducible first | exact HB.out | apply below_alloc | apply pw_below_drewN | apply below_drew1) | exact HB.out))) : w.heap.size ≤ gb119)); have n3_ := Aside0.mk ((by rw [hg]; exact (below_size (by repeat (first | (with_reducible first | exact HB.out | apply below_alloc | apply pw_below_drewN | apply below_drew1) | exact HB.out))) : w.heap.size ≤ gb119)); clear HB; have HB := n0_; have BK119 := n1_; have GW119 := n2_; have GE119 := n3_; clear n0_ n1_ n2_ n3_; clear hb hbox hg; have hcz6_0 : w5.cell? ⟨gb119, 0, none⟩ = some (.int .i64 a0_0) := (blk_cell BK119.out 0).trans rfl; have hcz6_1 : w5.cell? ⟨gb119, 1, none⟩ = some (.int .i64 a0_1) := (blk_cell BK119.out 1).trans rfl; have hcz6_2 : w5.cell? ⟨gb119, 2, none⟩ = some (.int .i64 a0_2) := (blk_cell BK119.out 2).trans rfl; have hcz6_3 : w5.cell? ⟨gb119, 3, none⟩ = some (.int .i64 a0_3) := (blk_cell BK119.out 3).trans rfl; have hcz6_4 : w5.cell? ⟨gb119, 4, none⟩ = some (.int .i64 a0_4) := (blk_cell BK119.out 4).trans rfl; have hcz6_5 : w5.cell? ⟨gb119, 5, none⟩ = some (.slice A0_5 l0_5.length c0_5) := (blk_cell BK119.out 5).trans rfl; have hfz6_0 := blk_frozen BK119.out 0; have hfz6_1 := blk_frozen BK119.out 1; have hfz6_2 := blk_frozen BK119.out 2; have hfz6_3 := blk_frozen BK119.out 3; have hfz6_4 := blk_frozen BK119.out 4; have hfz6_5 := blk_frozen BK119.out 5) | ((with_reducible refine gate_callee (f := 46) rfl ?_); refine goesL_ (some 9) rfl rfl Tryd.func46 (by kernel_rfl) rfl #[.agg #[.int .i64 a0_0, .int .i64 a0_1, .int .i64 a0_2, .int .i64 a0_3, .int .i64 a0_4, .slice A0_5 l0_5.length c0_5]] rfl (by (try simp only [List.map_toArray, List.map_cons, List.map_nil]); first | done | rfl | (simp only [List.length_drop, List.length_take]; rfl)) ?_; (with_reducible refine (passepartoutref04_own.calls a0_0 a0_1 a0_2 a0_3 a0_4 _ _ l0_5 t120 _ ?side1 ?side2 A2.out).mono ?_); (case side1 => repeat (first | exact (Kd.C_below HR0_5.out HB.out) | (with_reducible refine Kd.C_alloc ?_ _) | (with_reducible refine Kd.C_drewN ?_ _) | (with_reducible refine Kd.C_drew ?_))); (case side2 => exact HC0_5.out); rintro e w7 ⟨rfl, hb⟩; refine ⟨_, rfl, ?_⟩; have n0_ := Aside0.mk (blk_below (g := gb119) (o := .cells #[.int .i64 a0_0, .int .i64 a0_1, .int .i64 a0_2, .int .i64 a0_3, .int .i64 a0_4, .slice A0_5 l0_5.length c0_5] 24 (0, 0)) (by (with_reducible repeat (first | refine blk_drewN ?_ _ | refine blk_drew ?_ | refine blk_alloc ?_ _)); exact BK119.out) hb); have n1_ := Aside0.mk (below_step (by repeat (first | (with_reducible first | exact HB.out | apply below_alloc | apply pw_below_drewN | apply below_drew1 | refine below_set ?_ GE119.out) | exact HB.out)) hb); clear BK119; clear HB; have BK119 := n0_; have HB := n1_; clear n0_ n1_; (try clear hb); (try clear hb2); (try clear hk); (try clear hi); have hcz8_0 : w7.cell? ⟨gb119, 0, none⟩ = some (.int .i64 a0_0) := (blk_cell BK119.out 0).trans rfl; have hcz8_1 : w7.cell? ⟨gb119, 1, none⟩ = some (.int .i64 a0_1) := (blk_cell BK119.out 1).trans rfl; have hcz8_2 : w7.cell? ⟨gb119, 2, none⟩ = some (.int .i64 a0_2) := (blk_cell BK119.out 2).trans rfl; have hcz8_3 : w7.cell? ⟨gb119, 3, none⟩ = some (.int .i64 a0_3) := (blk_cell BK119.out 3).trans rfl; have hcz8_4 : w7.cell? ⟨gb119, 4, none⟩ = some (.int .i64 a0_4) := (blk_cell BK119.out 4).trans rfl; have hcz8_5 : w7.cell? ⟨gb119, 5, none⟩ = some (.slice A0_5 l0_5.length c0_5) := (blk_cell BK119.out 5).trans rfl; have hfz8_0 := blk_frozen BK119.out 0; have hfz8_1 := blk_frozen BK119.out 1; have hfz8_2 := blk_frozen BK119.out 2; have hfz8_3 := blk_frozen BK119.out 3; have hfz8_4 := blk_frozen BK119.out 4; have hfz8_5 := blk_frozen BK119.out 5) | ((with_reducible refine gate_callee (f := 31) rfl ?_); refine goesL_ (some 14) rfl rfl Tryd.func31 (by kernel_rfl) rfl #[.agg #[.int .i64 a0_0, .int .i64 a0_1, .int .i64 a0_2, .int .i64 a0_3, .int .i64 a0_4, .slice A0_5 l0_5.length c0_5]] rfl (by (try simp only [List.map_toArray, List.map_cons, List.map_nil]); first | done | rfl | (simp only [List.length_drop, List.length_take]; rfl)) ?_; (with_reducible refine (passepartoutref04_parts.calls a0_0 a0_1 a0_2 a0_3 a0_4 (fun k_ => k_ < w.heap.size) _ _ l0_5 t121 _ ?side1 A4.out).mono ?_); (case side1 => exact Kd.V_mk HC0_5.out (Kd.F_below (Kd.C_F k24_heap HR0_5.out) (by repeat (first | (with_reducible first | exact HB.out | apply below_alloc | apply pw_below_drewN | apply below_drew1 | refine below_set ?_ GE119.out) | exact HB.out)))); rintro e w9 ⟨v122, rfl, ho0, hb⟩; refine ⟨_, rfl, ?_⟩; have n0_ := Aside0.mk (Kd.V_lower (Kd.V_mono (ok' := fun k_ => k_ ≠ gb119) ho0 (fun k_ hk_ => Or.elim hk_ (fun hs_ => fun e_ => Nat.not_le.2 hs_ (by rw [e_]; exact GW119.out)) (fun hn_ => (Kd.freshB (g := gb119) (o := .cells #[.int .i64 a0_0, .int .i64 a0_1, .int .i64 a0_2, .int .i64 a0_3, .int .i64 a0_4, .slice A0_5 l0_5.length c0_5] 24 (0, 0)) (by (with_reducible repeat (first | refine blk_drewN ?_ _ | refine blk_drew ?_ | refine blk_alloc ?_ _)); exact BK119.out) k_ hn_)))) (below_size (by repeat (first | (with_reducible first | exact HB.out | apply below_alloc | apply pw_below_drewN | apply below_drew1 | refine below_set ?_ GE119.out) | exact HB.out)))); have n1_ := Aside0.mk (blk_below (g := gb119) (o := .cells #[.int .i64 a0_0, .int .i64 a0_1, .int .i64 a0_2, .int .i64 a0_3, .int .i64 a0_4, .slice A0_5 l0_5.length c0_5] 24 (0, 0)) (by (with_reducible repeat (first | refine blk_drewN ?_ _ | refine blk_drew ?_ | refine blk_alloc ?_ _)); exact BK119.out) hb); have n2_ := Aside0.mk (below_step (by repeat (first | (with_reducible first | exact HB.out | apply below_alloc | apply pw_below_drewN | apply below_drew1 | refine below_set ?_ GE119.out) | exact HB.out)) hb); clear BK119; clear HB; have HO123 := n0_; have BK119 := n1_; have HB := n2_; clear n0_ n1_ n2_; (try clear hb); (try clear hb2); (try clear hk); (try clear hi); (try clear ho0)))
  go_loopg [5] k (fun kq v5 w' => ∃ (x5_1 : Int), v5 = .int .i64 x5_1 ∧ Aside0 (passepartoutref04_check.l0 kq t121 x5_1 a0_0 a0_1 a0_2 a0_3 a0_4 l0_5 = some r) ∧ Aside0 (kq ≤ k) ∧ Aside0 (Kd.V k24 24 w' w.heap.size (fun k_ => k_ ≠ gb119) v122 t121) ∧ Aside0 (w'.heap[gb119]? = some (.cells #[.int .i64 a0_0, .int .i64 a0_1, .int .i64 a0_2, .int .i64 a0_3, .int .i64 a0_4, (.slice A0_5 l0_5.length c0_5)] 24 (0, 0))) ∧ Aside0 (Below w.heap.size w w'))
  case atStart => exact ⟨(0), (by first | rfl | (simp; done) | (simp [*]; done)), H', ⟨Nat.le_refl _⟩, ⟨by (with_reducible repeat (first | apply Kd.V_alloc | apply Kd.V_drewN | apply Kd.V_drew)); exact HO123.out⟩, ⟨by (with_reducible repeat (first | refine blk_drewN ?_ _ | refine blk_drew ?_ | refine blk_alloc ?_ _)); exact BK119.out⟩, ⟨by repeat (first | (with_reducible first | exact HB.out | apply below_alloc | apply pw_below_drewN | apply below_drew1 | refine below_set ?_ GE119.out) | exact HB.out)⟩⟩
  case round =>
   clear H'
   try clear p2
   try clear c3
   try clear c3b0
   try clear c3b1
   try clear c4
   try clear hcz6_0
   try clear hcz6_1
   try clear hcz6_2
   try clear hcz6_3
   try clear hcz6_4
   try clear hcz6_5
   try clear hcz8_0
   try clear hcz8_1
   try clear hcz8_2
   try clear hcz8_3
   try clear hcz8_4
   try clear hcz8_5
   try clear hfz6_0
   try clear hfz6_1
   try clear hfz6_2
   try clear hfz6_3
   try clear hfz6_4
   try clear hfz6_5
   try clear hfz8_0
   try clear hfz8_1
   try clear hfz8_2
   try clear hfz8_3
   try clear hfz8_4
   try clear hfz8_5
   obtain ⟨x5_1, rfl, HA, HK1, HO_4, BK119, HB⟩ := hrel
   cases gk with
   | zero => exact absurd HA.out (by simp [passepartoutref04_check.l0])
   | succ k1 =>
    have H := HA.out
    clear HA
    simp only [passepartoutref04_check.l0] at H
    by_cases c10 : x5_1 < (t121.length : Int)
    ·rw [if_pos c10] at H
     have c10b0 : decide (x5_1 < (t121.length : Int)) = true := decide_eq_true c10
     clear c10
     by_cases c11 : 0 ≤ x5_1
     ·rw [if_pos c11] at H
      have c11b0 : decide (0 ≤ x5_1) = true := decide_eq_true c11
      clear c11
      replace H := Option.bind_eq_some_iff.mp H
      obtain ⟨t125, A120, H⟩ := H
      replace H : (if t125 = 0 then (passepartoutref04_check.l0 k1 t121 (wrap64 (x5_1 + 1)) a0_0 a0_1 a0_2 a0_3 a0_4 l0_5) else (some t125)) = some r := H
      have A12 := Aside0.mk A120
      clear A120
      by_cases c13 : t125 = 0
      ·rw [if_pos c13] at H
       have c13b0 : (t125 == 0) = true := beq_iff_eq.mpr c13
       have c13b1 : (t125 != 0) = false := bne_eq_false_iff_eq.mpr c13
       clear c13
       have H' := Aside0.mk H
       clear H
       obtain ⟨Ao14, co14, eo14⟩ := Kd.V_slice HO_4.out
       subst eo14
       have p124 : 0 ≤ (x5_1 : Int) := of_decide_eq_true (by first | (with_reducible assumption) | assumption)
       have q124 : x5_1 < (t121.length : Int) := of_decide_eq_true (by first | (with_reducible assumption) | assumption)
       obtain ⟨ad124, A124_5, c124_5, e124, hx124_0, hx124_1, hx124_2, hx124_3, hx124_4, hx124_5, hl124_5, hi124_5⟩ := at_T24 (Kd.V_reads' HO_4.out).2.2 x5_1 p124 q124
       cases e124
       obtain ⟨ce124, hce124, hMe124, hcc124⟩ := Kd.V_get HO_4.out z24 x5_1 p124 (by first | exact q124 | exact of_decide_eq_true (by first | (with_reducible assumption) | assumption) | (have e_ := (Kd.V_reads' HO_4.out).1; omega))
       obtain ⟨ua124_5, uc124_5, rfl, ul124_5, ge124_5⟩ := k24_openF hMe124
       have hv124_5 := hcc124 5 _ rfl
       rw [add_field _ _ 5 (by omega)] at hv124_5
       replace hv124_5 := Option.some.inj (hv124_5.symm.trans hx124_5)
       injection hv124_5 with hva_ hvn_ hvc_
       rw [hva_] at ge124_5
       rw [hvc_] at ul124_5
       have HL124_5 := Aside0.mk (show Kd.V k24 24 _ w.heap.size _ _ ((rd_T24 t121 x5_1).f5) from Kd.V_mk ul124_5 ge124_5)
       clear hva_ hvn_ hvc_ ge124_5 ul124_5
       clear hcc124 hce124
       have HR124_5 := Aside0.mk hi124_5
       have HC124_5 := Aside0.mk hl124_5
       clear hi124_5 hl124_5
       replace p124 := eq_true p124
       replace q124 := eq_true q124
       go_wp2_with (first | ((with_reducible refine gate_callee (f := 30) rfl ?_); refine goesL_ (some 25) rfl rfl Tryd.func30 (by kernel_rfl) rfl #[.agg #[.int .i64 ((rd_T24 t121 x5_1).f0), .int .i64 ((rd_T24 t121 x5_1).f1), .int .i64 ((rd_T24 t121 x5_1).f2), .int .i64 ((rd_T24 t121 x5_1).f3), .int .i64 ((rd_T24 t121 x5_1).f4), .slice A124_5 ((rd_T24 t121 x5_1).f5).length c124_5]] rfl (by (try simp only [List.map_toArray, List.map_cons, List.map_nil]); first | done | rfl | (simp only [List.length_drop, List.length_take]; rfl)) ?_; (with_reducible refine (ih k1 (by have := HK1.out; omega) ((rd_T24 t121 x5_1).f0) ((rd_T24 t121 x5_1).f1) ((rd_T24 t121 x5_1).f2) ((rd_T24 t121 x5_1).f3) ((rd_T24 t121 x5_1).f4) _ _ ((rd_T24 t121 x5_1).f5) t125 _ ?side1 ?side2 A12.out).mono ?_); (case side1 => repeat (first | exact (by repeat (first | (with_reducible exact HR124_5.out) | (with_reducible refine Kd.C_alloc ?_ _) | (with_reducible refine Kd.C_drewN ?_ _) | (with_reducible refine Kd.C_drew ?_) | exact HR124_5.out)) | (with_reducible refine Kd.C_alloc ?_ _) | (with_reducible refine Kd.C_drewN ?_ _) | (with_reducible refine Kd.C_drew ?_))); (case side2 => exact HC124_5.out); rintro e w15 ⟨rfl, hb⟩; refine ⟨_, rfl, ?_⟩; have n0_ := Aside0.mk (Kd.V_below (by (with_reducible repeat (first | apply Kd.V_alloc | apply Kd.V_drewN | apply Kd.V_drew)); exact HO_4.out) hb); have n1_ := Aside0.mk (Kd.V_below (by (with_reducible repeat (first | apply Kd.V_alloc | apply Kd.V_drewN | apply Kd.V_drew)); exact HL124_5.out) hb); have n2_ := Aside0.mk (blk_below (g := gb119) (o := .cells #[.int .i64 a0_0, .int .i64 a0_1, .int .i64 a0_2, .int .i64 a0_3, .int .i64 a0_4, .slice A0_5 l0_5.length c0_5] 24 (0, 0)) (by (with_reducible repeat (first | refine blk_drewN ?_ _ | refine blk_drew ?_ | refine blk_alloc ?_ _)); exact BK119.out) hb); have n3_ := Aside0.mk (Kd.C_below (by repeat (first | (with_reducible exact HR124_5.out) | (with_reducible refine Kd.C_alloc ?_ _) | (with_reducible refine Kd.C_drewN ?_ _) | (with_reducible refine Kd.C_drew ?_) | exact HR124_5.out)) hb); have n4_ := Aside0.mk (below_step (by repeat (first | (with_reducible first | exact HB.out | apply below_alloc | apply pw_below_drewN | apply below_drew1 | refine below_set ?_ GE119.out) | exact HB.out)) hb); clear HO_4; clear HL124_5; clear BK119; clear HR124_5; clear HB; have HO_4 := n0_; have HL124_5 := n1_; have BK119 := n2_; have HR124_5 := n3_; have HB := n4_; clear n0_ n1_ n2_ n3_ n4_; (try clear hb); (try clear hb2); (try clear hk); (try clear hi)))
       go_roundg k1
       case measure => have := HK1.out; omega
       case rel => exact ⟨(wrap64 (x5_1 + 1)), (by first | rfl | (simp; done) | (simp [*]; done)), H', ⟨by have := HK1.out; omega⟩, ⟨by (with_reducible repeat (first | apply Kd.V_alloc | apply Kd.V_drewN | apply Kd.V_drew)); exact HO_4.out⟩, ⟨by (with_reducible repeat (first | refine blk_drewN ?_ _ | refine blk_drew ?_ | refine blk_alloc ?_ _)); exact BK119.out⟩, ⟨by repeat (first | (with_reducible first | exact HB.out | apply below_alloc | apply pw_below_drewN | apply below_drew1 | refine below_set ?_ GE119.out) | exact HB.out)⟩⟩
      ·rw [if_neg c13] at H
       have c13b0 : (t125 == 0) = false := beq_eq_false_iff_ne.mpr c13
       have c13b1 : (t125 != 0) = true := bne_iff_ne.mpr c13
       obtain rfl := Option.some.inj H
       obtain ⟨Ao16, co16, eo16⟩ := Kd.V_slice HO_4.out
       subst eo16
       have p124 : 0 ≤ (x5_1 : Int) := of_decide_eq_true (by first | (with_reducible assumption) | assumption)
       have q124 : x5_1 < (t121.length : Int) := of_decide_eq_true (by first | (with_reducible assumption) | assumption)
       obtain ⟨ad124, A124_5, c124_5, e124, hx124_0, hx124_1, hx124_2, hx124_3, hx124_4, hx124_5, hl124_5, hi124_5⟩ := at_T24 (Kd.V_reads' HO_4.out).2.2 x5_1 p124 q124
       cases e124
       obtain ⟨ce124, hce124, hMe124, hcc124⟩ := Kd.V_get HO_4.out z24 x5_1 p124 (by first | exact q124 | exact of_decide_eq_true (by first | (with_reducible assumption) | assumption) | (have e_ := (Kd.V_reads' HO_4.out).1; omega))
       obtain ⟨ua124_5, uc124_5, rfl, ul124_5, ge124_5⟩ := k24_openF hMe124
       have hv124_5 := hcc124 5 _ rfl
       rw [add_field _ _ 5 (by omega)] at hv124_5
       replace hv124_5 := Option.some.inj (hv124_5.symm.trans hx124_5)
       injection hv124_5 with hva_ hvn_ hvc_
       rw [hva_] at ge124_5
       rw [hvc_] at ul124_5
       have HL124_5 := Aside0.mk (show Kd.V k24 24 _ w.heap.size _ _ ((rd_T24 t121 x5_1).f5) from Kd.V_mk ul124_5 ge124_5)
       clear hva_ hvn_ hvc_ ge124_5 ul124_5
       clear hcc124 hce124
       have HR124_5 := Aside0.mk hi124_5
       have HC124_5 := Aside0.mk hl124_5
       clear hi124_5 hl124_5
       replace p124 := eq_true p124
       replace q124 := eq_true q124
       go_wp2_with (first | ((with_reducible refine gate_callee (f := 30) rfl ?_); refine goesL_ (some 25) rfl rfl Tryd.func30 (by kernel_rfl) rfl #[.agg #[.int .i64 ((rd_T24 t121 x5_1).f0), .int .i64 ((rd_T24 t121 x5_1).f1), .int .i64 ((rd_T24 t121 x5_1).f2), .int .i64 ((rd_T24 t121 x5_1).f3), .int .i64 ((rd_T24 t121 x5_1).f4), .slice A124_5 ((rd_T24 t121 x5_1).f5).length c124_5]] rfl (by (try simp only [List.map_toArray, List.map_cons, List.map_nil]); first | done | rfl | (simp only [List.length_drop, List.length_take]; rfl)) ?_; (with_reducible refine (ih k1 (by have := HK1.out; omega) ((rd_T24 t121 x5_1).f0) ((rd_T24 t121 x5_1).f1) ((rd_T24 t121 x5_1).f2) ((rd_T24 t121 x5_1).f3) ((rd_T24 t121 x5_1).f4) _ _ ((rd_T24 t121 x5_1).f5) t125 _ ?side1 ?side2 A12.out).mono ?_); (case side1 => repeat (first | exact (by repeat (first | (with_reducible exact HR124_5.out) | (with_reducible refine Kd.C_alloc ?_ _) | (with_reducible refine Kd.C_drewN ?_ _) | (with_reducible refine Kd.C_drew ?_) | exact HR124_5.out)) | (with_reducible refine Kd.C_alloc ?_ _) | (with_reducible refine Kd.C_drewN ?_ _) | (with_reducible refine Kd.C_drew ?_))); (case side2 => exact HC124_5.out); rintro e w17 ⟨rfl, hb⟩; refine ⟨_, rfl, ?_⟩; have n0_ := Aside0.mk (Kd.V_below (by (with_reducible repeat (first | apply Kd.V_alloc | apply Kd.V_drewN | apply Kd.V_drew)); exact HO_4.out) hb); have n1_ := Aside0.mk (Kd.V_below (by (with_reducible repeat (first | apply Kd.V_alloc | apply Kd.V_drewN | apply Kd.V_drew)); exact HL124_5.out) hb); have n2_ := Aside0.mk (blk_below (g := gb119) (o := .cells #[.int .i64 a0_0, .int .i64 a0_1, .int .i64 a0_2, .int .i64 a0_3, .int .i64 a0_4, .slice A0_5 l0_5.length c0_5] 24 (0, 0)) (by (with_reducible repeat (first | refine blk_drewN ?_ _ | refine blk_drew ?_ | refine blk_alloc ?_ _)); exact BK119.out) hb); have n3_ := Aside0.mk (Kd.C_below (by repeat (first | (with_reducible exact HR124_5.out) | (with_reducible refine Kd.C_alloc ?_ _) | (with_reducible refine Kd.C_drewN ?_ _) | (with_reducible refine Kd.C_drew ?_) | exact HR124_5.out)) hb); have n4_ := Aside0.mk (below_step (by repeat (first | (with_reducible first | exact HB.out | apply below_alloc | apply pw_below_drewN | apply below_drew1 | refine below_set ?_ GE119.out) | exact HB.out)) hb); clear HO_4; clear HL124_5; clear BK119; clear HR124_5; clear HB; have HO_4 := n0_; have HL124_5 := n1_; have BK119 := n2_; have HR124_5 := n3_; have HB := n4_; clear n0_ n1_ n2_ n3_ n4_; (try clear hb); (try clear hb2); (try clear hk); (try clear hi)))
       go_ret
       exact ⟨by first | rfl | (simp [errW_none, errW_some] <;> rfl) | (simp [*, errW_none, errW_some] <;> rfl), by repeat (first | (with_reducible first | exact HB.out | apply below_alloc | apply pw_below_drewN | apply below_drew1 | refine below_set ?_ GE119.out) | exact HB.out)⟩
     ·rw [if_neg c11] at H
      exact absurd H (by simp)
    ·rw [if_neg c10] at H
     have c10b0 : decide (x5_1 < (t121.length : Int)) = false := decide_eq_false c10
     clear c10
     have H' := Aside0.mk H
     clear H
     obtain ⟨Ao18, co18, eo18⟩ := Kd.V_slice HO_4.out
     subst eo18
     go_wp2
     go_loopg [6] k1 (fun kq v6 w' => ∃ (x6_2 : Int), v6 = .int .i64 x6_2 ∧ Aside0 (passepartoutref04_check.l1 kq t121 x6_2 a0_0 a0_1 a0_2 a0_3 a0_4 l0_5 = some r) ∧ Aside0 (kq ≤ k1) ∧ Aside0 (Kd.V k24 24 w' w.heap.size (fun k_ => k_ ≠ gb119) (.slice Ao18 t121.length co18) t121) ∧ Aside0 (w'.heap[gb119]? = some (.cells #[.int .i64 a0_0, .int .i64 a0_1, .int .i64 a0_2, .int .i64 a0_3, .int .i64 a0_4, (.slice A0_5 l0_5.length c0_5)] 24 (0, 0))) ∧ Aside0 (Below w.heap.size w w'))
     case atStart => exact ⟨(0), (by first | rfl | (simp; done) | (simp [*]; done)), H', ⟨Nat.le_refl _⟩, ⟨by (with_reducible repeat (first | apply Kd.V_alloc | apply Kd.V_drewN | apply Kd.V_drew)); exact HO_4.out⟩, ⟨by (with_reducible repeat (first | refine blk_drewN ?_ _ | refine blk_drew ?_ | refine blk_alloc ?_ _)); exact BK119.out⟩, ⟨by repeat (first | (with_reducible first | exact HB.out | apply below_alloc | apply pw_below_drewN | apply below_drew1 | refine below_set ?_ GE119.out) | exact HB.out)⟩⟩
     case round =>
      clear H'
      try clear c1
      try clear p1
      try clear q1
      try clear hx1
      try clear p2
      try clear c3
      try clear c3b0
      try clear c3b1
      try clear c4
      try clear p6
      try clear c10
      try clear c10b0
      try clear c11
      try clear c11b0
      try clear c12
      try clear p12
      try clear q12
      try clear hx12
      try clear c13
      try clear c13b0
      try clear c13b1
      try clear hcz6_0
      try clear hcz6_1
      try clear hcz6_2
      try clear hcz6_3
      try clear hcz6_4
      try clear hcz6_5
      try clear hcz8_0
      try clear hcz8_1
      try clear hcz8_2
      try clear hcz8_3
      try clear hcz8_4
      try clear hcz8_5
      try clear hfz6_0
      try clear hfz6_1
      try clear hfz6_2
      try clear hfz6_3
      try clear hfz6_4
      try clear hfz6_5
      try clear hfz8_0
      try clear hfz8_1
      try clear hfz8_2
      try clear hfz8_3
      try clear hfz8_4
      try clear hfz8_5
      try clear hx124_0
      try clear hx124_1
      try clear hx124_2
      try clear hx124_3
      try clear hx124_4
      try clear hx124_5
      try clear p124
      try clear p2
      try clear q124
      obtain ⟨x6_2, rfl, HA, HK2, HO_4, BK119, HB⟩ := hrel
      cases gk with
      | zero => exact absurd HA.out (by simp [passepartoutref04_check.l1])
      | succ k2 =>
       have H := HA.out
       clear HA
       simp only [passepartoutref04_check.l1] at H
       by_cases c19 : x6_2 < (t121.length : Int)
       ·rw [if_pos c19] at H
        have c19b0 : decide (x6_2 < (t121.length : Int)) = true := decide_eq_true c19
        clear c19
        by_cases c20 : 0 ≤ x6_2
        ·rw [if_pos c20] at H
         have c20b0 : decide (0 ≤ x6_2) = true := decide_eq_true c20
         clear c20
         replace H := Option.bind_eq_some_iff.mp H
         obtain ⟨t127, A210, H⟩ := H
         replace H : (if t127 = true then (if a0_0 = 2 then (some 15) else (if (wrap64 (x6_2 + 1)) < (t121.length : Int) then (some 15) else (passepartoutref04_check.l1 k2 t121 (wrap64 (x6_2 + 1)) a0_0 a0_1 a0_2 a0_3 a0_4 l0_5))) else (passepartoutref04_check.l1 k2 t121 (wrap64 (x6_2 + 1)) a0_0 a0_1 a0_2 a0_3 a0_4 l0_5)) = some r := H
         have A21 := Aside0.mk A210
         clear A210
         by_cases c22 : t127 = true
         ·subst c22
          have H1 : (if a0_0 = 2 then (some 15) else (if (wrap64 (x6_2 + 1)) < (t121.length : Int) then (some 15) else (passepartoutref04_check.l1 k2 t121 (wrap64 (x6_2 + 1)) a0_0 a0_1 a0_2 a0_3 a0_4 l0_5))) = some r := by rw [if_pos rfl] at H; exact H
          clear H
          have H := H1
          clear H1
          by_cases c23 : a0_0 = 2
          ·rw [if_pos c23] at H
           have c23b0 : (a0_0 == 2) = true := beq_iff_eq.mpr c23
           have c23b1 : (a0_0 != 2) = false := bne_eq_false_iff_eq.mpr c23
           clear c23
           obtain rfl := Option.some.inj H
           have p126 : 0 ≤ (x6_2 : Int) := of_decide_eq_true (by first | (with_reducible assumption) | assumption)
           have q126 : x6_2 < (t121.length : Int) := of_decide_eq_true (by first | (with_reducible assumption) | assumption)
           obtain ⟨ad126, A126_5, c126_5, e126, hx126_0, hx126_1, hx126_2, hx126_3, hx126_4, hx126_5, hl126_5, hi126_5⟩ := at_T24 (Kd.V_reads' HO_4.out).2.2 x6_2 p126 q126
           cases e126
           obtain ⟨ce126, hce126, hMe126, hcc126⟩ := Kd.V_get HO_4.out z24 x6_2 p126 (by first | exact q126 | exact of_decide_eq_true (by first | (with_reducible assumption) | assumption) | (have e_ := (Kd.V_reads' HO_4.out).1; omega))
           obtain ⟨ua126_5, uc126_5, rfl, ul126_5, ge126_5⟩ := k24_openF hMe126
           have hv126_5 := hcc126 5 _ rfl
           rw [add_field _ _ 5 (by omega)] at hv126_5
           replace hv126_5 := Option.some.inj (hv126_5.symm.trans hx126_5)
           injection hv126_5 with hva_ hvn_ hvc_
           rw [hva_] at ge126_5
           rw [hvc_] at ul126_5
           have HL126_5 := Aside0.mk (show Kd.V k24 24 _ w.heap.size _ _ ((rd_T24 t121 x6_2).f5) from Kd.V_mk ul126_5 ge126_5)
           clear hva_ hvn_ hvc_ ge126_5 ul126_5
           clear hcc126 hce126
           have HR126_5 := Aside0.mk hi126_5
           have HC126_5 := Aside0.mk hl126_5
           clear hi126_5 hl126_5
           replace p126 := eq_true p126
           replace q126 := eq_true q126
           go_wp2_with (first | ((with_reducible refine gate_callee (f := 18) rfl ?_); refine goesL_ (some 39) rfl rfl Tryd.func18 (by kernel_rfl) rfl #[.agg #[.int .i64 ((rd_T24 t121 x6_2).f0), .int .i64 ((rd_T24 t121 x6_2).f1), .int .i64 ((rd_T24 t121 x6_2).f2), .int .i64 ((rd_T24 t121 x6_2).f3), .int .i64 ((rd_T24 t121 x6_2).f4), .slice A126_5 ((rd_T24 t121 x6_2).f5).length c126_5]] rfl (by (try simp only [List.map_toArray, List.map_cons, List.map_nil]); first | done | rfl | (simp only [List.length_drop, List.length_take]; rfl)) ?_; (with_reducible refine (passepartoutref04_Open.calls k2 ((rd_T24 t121 x6_2).f0) ((rd_T24 t121 x6_2).f1) ((rd_T24 t121 x6_2).f2) ((rd_T24 t121 x6_2).f3) ((rd_T24 t121 x6_2).f4) _ _ ((rd_T24 t121 x6_2).f5) true _ ?side1 ?side2 A21.out).mono ?_); (case side1 => repeat (first | exact (by repeat (first | (with_reducible exact HR126_5.out) | (with_reducible refine Kd.C_alloc ?_ _) | (with_reducible refine Kd.C_drewN ?_ _) | (with_reducible refine Kd.C_drew ?_) | exact HR126_5.out)) | (with_reducible refine Kd.C_alloc ?_ _) | (with_reducible refine Kd.C_drewN ?_ _) | (with_reducible refine Kd.C_drew ?_))); (case side2 => exact HC126_5.out); rintro e w24 ⟨rfl, hb⟩; refine ⟨_, rfl, ?_⟩; have n0_ := Aside0.mk (Kd.V_below (by (with_reducible repeat (first | apply Kd.V_alloc | apply Kd.V_drewN | apply Kd.V_drew)); exact HO_4.out) hb); have n1_ := Aside0.mk (Kd.V_below (by (with_reducible repeat (first | apply Kd.V_alloc | apply Kd.V_drewN | apply Kd.V_drew)); exact HL126_5.out) hb); have n2_ := Aside0.mk (blk_below (g := gb119) (o := .cells #[.int .i64 a0_0, .int .i64 a0_1, .int .i64 a0_2, .int .i64 a0_3, .int .i64 a0_4, .slice A0_5 l0_5.length c0_5] 24 (0, 0)) (by (with_reducible repeat (first | refine blk_drewN ?_ _ | refine blk_drew ?_ | refine blk_alloc ?_ _)); exact BK119.out) hb); have n3_ := Aside0.mk (Kd.C_below (by repeat (first | (with_reducible exact HR126_5.out) | (with_reducible refine Kd.C_alloc ?_ _) | (with_reducible refine Kd.C_drewN ?_ _) | (with_reducible refine Kd.C_drew ?_) | exact HR126_5.out)) hb); have n4_ := Aside0.mk (below_step (by repeat (first | (with_reducible first | exact HB.out | apply below_alloc | apply pw_below_drewN | apply below_drew1 | refine below_set ?_ GE119.out) | exact HB.out)) hb); clear HO_4; clear HL126_5; clear BK119; clear HR126_5; clear HB; have HO_4 := n0_; have HL126_5 := n1_; have BK119 := n2_; have HR126_5 := n3_; have HB := n4_; clear n0_ n1_ n2_ n3_ n4_; (try clear hb); (try clear hb2); (try clear hk); (try clear hi); have hcz25_0 : w24.cell? ⟨gb119, 0, none⟩ = some (.int .i64 a0_0) := (blk_cell BK119.out 0).trans rfl; have hcz25_1 : w24.cell? ⟨gb119, 1, none⟩ = some (.int .i64 a0_1) := (blk_cell BK119.out 1).trans rfl; have hcz25_2 : w24.cell? ⟨gb119, 2, none⟩ = some (.int .i64 a0_2) := (blk_cell BK119.out 2).trans rfl; have hcz25_3 : w24.cell? ⟨gb119, 3, none⟩ = some (.int .i64 a0_3) := (blk_cell BK119.out 3).trans rfl; have hcz25_4 : w24.cell? ⟨gb119, 4, none⟩ = some (.int .i64 a0_4) := (blk_cell BK119.out 4).trans rfl; have hcz25_5 : w24.cell? ⟨gb119, 5, none⟩ = some (.slice A0_5 l0_5.length c0_5) := (blk_cell BK119.out 5).trans rfl; have hfz25_0 := blk_frozen BK119.out 0; have hfz25_1 := blk_frozen BK119.out 1; have hfz25_2 := blk_frozen BK119.out 2; have hfz25_3 := blk_frozen BK119.out 3; have hfz25_4 := blk_frozen BK119.out 4; have hfz25_5 := blk_frozen BK119.out 5))
           go_ret
           exact ⟨by first | rfl | (simp [errW_none, errW_some] <;> rfl) | (simp [*, errW_none, errW_some] <;> rfl), by repeat (first | (with_reducible first | exact HB.out | apply below_alloc | apply pw_below_drewN | apply below_drew1 | refine below_set ?_ GE119.out) | exact HB.out)⟩
          ·rw [if_neg c23] at H
           have c23b0 : (a0_0 == 2) = false := beq_eq_false_iff_ne.mpr c23
           have c23b1 : (a0_0 != 2) = true := bne_iff_ne.mpr c23
           by_cases c26 : (wrap64 (x6_2 + 1)) < (t121.length : Int)
           ·rw [if_pos c26] at H
            have c26b0 : decide ((wrap64 (x6_2 + 1)) < (t121.length : Int)) = true := decide_eq_true c26
            clear c26
            obtain rfl := Option.some.inj H
            have p126 : 0 ≤ (x6_2 : Int) := of_decide_eq_true (by first | (with_reducible assumption) | assumption)
            have q126 : x6_2 < (t121.length : Int) := of_decide_eq_true (by first | (with_reducible assumption) | assumption)
            obtain ⟨ad126, A126_5, c126_5, e126, hx126_0, hx126_1, hx126_2, hx126_3, hx126_4, hx126_5, hl126_5, hi126_5⟩ := at_T24 (Kd.V_reads' HO_4.out).2.2 x6_2 p126 q126
            cases e126
            obtain ⟨ce126, hce126, hMe126, hcc126⟩ := Kd.V_get HO_4.out z24 x6_2 p126 (by first | exact q126 | exact of_decide_eq_true (by first | (with_reducible assumption) | assumption) | (have e_ := (Kd.V_reads' HO_4.out).1; omega))
            obtain ⟨ua126_5, uc126_5, rfl, ul126_5, ge126_5⟩ := k24_openF hMe126
            have hv126_5 := hcc126 5 _ rfl
            rw [add_field _ _ 5 (by omega)] at hv126_5
            replace hv126_5 := Option.some.inj (hv126_5.symm.trans hx126_5)
            injection hv126_5 with hva_ hvn_ hvc_
            rw [hva_] at ge126_5
            rw [hvc_] at ul126_5
            have HL126_5 := Aside0.mk (show Kd.V k24 24 _ w.heap.size _ _ ((rd_T24 t121 x6_2).f5) from Kd.V_mk ul126_5 ge126_5)
            clear hva_ hvn_ hvc_ ge126_5 ul126_5
            clear hcc126 hce126
            have HR126_5 := Aside0.mk hi126_5
            have HC126_5 := Aside0.mk hl126_5
            clear hi126_5 hl126_5
            replace p126 := eq_true p126
            replace q126 := eq_true q126
            go_wp2_with (first | ((with_reducible refine gate_callee (f := 18) rfl ?_); refine goesL_ (some 39) rfl rfl Tryd.func18 (by kernel_rfl) rfl #[.agg #[.int .i64 ((rd_T24 t121 x6_2).f0), .int .i64 ((rd_T24 t121 x6_2).f1), .int .i64 ((rd_T24 t121 x6_2).f2), .int .i64 ((rd_T24 t121 x6_2).f3), .int .i64 ((rd_T24 t121 x6_2).f4), .slice A126_5 ((rd_T24 t121 x6_2).f5).length c126_5]] rfl (by (try simp only [List.map_toArray, List.map_cons, List.map_nil]); first | done | rfl | (simp only [List.length_drop, List.length_take]; rfl)) ?_; (with_reducible refine (passepartoutref04_Open.calls k2 ((rd_T24 t121 x6_2).f0) ((rd_T24 t121 x6_2).f1) ((rd_T24 t121 x6_2).f2) ((rd_T24 t121 x6_2).f3) ((rd_T24 t121 x6_2).f4) _ _ ((rd_T24 t121 x6_2).f5) true _ ?side1 ?side2 A21.out).mono ?_); (case side1 => repeat (first | exact (by repeat (first | (with_reducible exact HR126_5.out) | (with_reducible refine Kd.C_alloc ?_ _) | (with_reducible refine Kd.C_drewN ?_ _) | (with_reducible refine Kd.C_drew ?_) | exact HR126_5.out)) | (with_reducible refine Kd.C_alloc ?_ _) | (with_reducible refine Kd.C_drewN ?_ _) | (with_reducible refine Kd.C_drew ?_))); (case side2 => exact HC126_5.out); rintro e w27 ⟨rfl, hb⟩; refine ⟨_, rfl, ?_⟩; have n0_ := Aside0.mk (Kd.V_below (by (with_reducible repeat (first | apply Kd.V_alloc | apply Kd.V_drewN | apply Kd.V_drew)); exact HO_4.out) hb); have n1_ := Aside0.mk (Kd.V_below (by (with_reducible repeat (first | apply Kd.V_alloc | apply Kd.V_drewN | apply Kd.V_drew)); exact HL126_5.out) hb); have n2_ := Aside0.mk (blk_below (g := gb119) (o := .cells #[.int .i64 a0_0, .int .i64 a0_1, .int .i64 a0_2, .int .i64 a0_3, .int .i64 a0_4, .slice A0_5 l0_5.length c0_5] 24 (0, 0)) (by (with_reducible repeat (first | refine blk_drewN ?_ _ | refine blk_drew ?_ | refine blk_alloc ?_ _)); exact BK119.out) hb); have n3_ := Aside0.mk (Kd.C_below (by repeat (first | (with_reducible exact HR126_5.out) | (with_reducible refine Kd.C_alloc ?_ _) | (with_reducible refine Kd.C_drewN ?_ _) | (with_reducible refine Kd.C_drew ?_) | exact HR126_5.out)) hb); have n4_ := Aside0.mk (below_step (by repeat (first | (with_reducible first | exact HB.out | apply below_alloc | apply pw_below_drewN | apply below_drew1 | refine below_set ?_ GE119.out) | exact HB.out)) hb); clear HO_4; clear HL126_5; clear BK119; clear HR126_5; clear HB; have HO_4 := n0_; have HL126_5 := n1_; have BK119 := n2_; have HR126_5 := n3_; have HB := n4_; clear n0_ n1_ n2_ n3_ n4_; (try clear hb); (try clear hb2); (try clear hk); (try clear hi); have hcz28_0 : w27.cell? ⟨gb119, 0, none⟩ = some (.int .i64 a0_0) := (blk_cell BK119.out 0).trans rfl; have hcz28_1 : w27.cell? ⟨gb119, 1, none⟩ = some (.int .i64 a0_1) := (blk_cell BK119.out 1).trans rfl; have hcz28_2 : w27.cell? ⟨gb119, 2, none⟩ = some (.int .i64 a0_2) := (blk_cell BK119.out 2).trans rfl; have hcz28_3 : w27.cell? ⟨gb119, 3, none⟩ = some (.int .i64 a0_3) := (blk_cell BK119.out 3).trans rfl; have hcz28_4 : w27.cell? ⟨gb119, 4, none⟩ = some (.int .i64 a0_4) := (blk_cell BK119.out 4).trans rfl; have hcz28_5 : w27.cell? ⟨gb119, 5, none⟩ = some (.slice A0_5 l0_5.length c0_5) := (blk_cell BK119.out 5).trans rfl; have hfz28_0 := blk_frozen BK119.out 0; have hfz28_1 := blk_frozen BK119.out 1; have hfz28_2 := blk_frozen BK119.out 2; have hfz28_3 := blk_frozen BK119.out 3; have hfz28_4 := blk_frozen BK119.out 4; have hfz28_5 := blk_frozen BK119.out 5))
            go_ret
            exact ⟨by first | rfl | (simp [errW_none, errW_some] <;> rfl) | (simp [*, errW_none, errW_some] <;> rfl), by repeat (first | (with_reducible first | exact HB.out | apply below_alloc | apply pw_below_drewN | apply below_drew1 | refine below_set ?_ GE119.out) | exact HB.out)⟩
           ·rw [if_neg c26] at H
            have c26b0 : decide ((wrap64 (x6_2 + 1)) < (t121.length : Int)) = false := decide_eq_false c26
            clear c26
            have H' := Aside0.mk H
            clear H
            have p126 : 0 ≤ (x6_2 : Int) := of_decide_eq_true (by first | (with_reducible assumption) | assumption)
            have q126 : x6_2 < (t121.length : Int) := of_decide_eq_true (by first | (with_reducible assumption) | assumption)
            obtain ⟨ad126, A126_5, c126_5, e126, hx126_0, hx126_1, hx126_2, hx126_3, hx126_4, hx126_5, hl126_5, hi126_5⟩ := at_T24 (Kd.V_reads' HO_4.out).2.2 x6_2 p126 q126
            cases e126
            obtain ⟨ce126, hce126, hMe126, hcc126⟩ := Kd.V_get HO_4.out z24 x6_2 p126 (by first | exact q126 | exact of_decide_eq_true (by first | (with_reducible assumption) | assumption) | (have e_ := (Kd.V_reads' HO_4.out).1; omega))
            obtain ⟨ua126_5, uc126_5, rfl, ul126_5, ge126_5⟩ := k24_openF hMe126
            have hv126_5 := hcc126 5 _ rfl
            rw [add_field _ _ 5 (by omega)] at hv126_5
            replace hv126_5 := Option.some.inj (hv126_5.symm.trans hx126_5)
            injection hv126_5 with hva_ hvn_ hvc_
            rw [hva_] at ge126_5
            rw [hvc_] at ul126_5
            have HL126_5 := Aside0.mk (show Kd.V k24 24 _ w.heap.size _ _ ((rd_T24 t121 x6_2).f5) from Kd.V_mk ul126_5 ge126_5)
            clear hva_ hvn_ hvc_ ge126_5 ul126_5
            clear hcc126 hce126
            have HR126_5 := Aside0.mk hi126_5
            have HC126_5 := Aside0.mk hl126_5
            clear hi126_5 hl126_5
            replace p126 := eq_true p126
            replace q126 := eq_true q126
            go_wp2_with (first | ((with_reducible refine gate_callee (f := 18) rfl ?_); refine goesL_ (some 39) rfl rfl Tryd.func18 (by kernel_rfl) rfl #[.agg #[.int .i64 ((rd_T24 t121 x6_2).f0), .int .i64 ((rd_T24 t121 x6_2).f1), .int .i64 ((rd_T24 t121 x6_2).f2), .int .i64 ((rd_T24 t121 x6_2).f3), .int .i64 ((rd_T24 t121 x6_2).f4), .slice A126_5 ((rd_T24 t121 x6_2).f5).length c126_5]] rfl (by (try simp only [List.map_toArray, List.map_cons, List.map_nil]); first | done | rfl | (simp only [List.length_drop, List.length_take]; rfl)) ?_; (with_reducible refine (passepartoutref04_Open.calls k2 ((rd_T24 t121 x6_2).f0) ((rd_T24 t121 x6_2).f1) ((rd_T24 t121 x6_2).f2) ((rd_T24 t121 x6_2).f3) ((rd_T24 t121 x6_2).f4) _ _ ((rd_T24 t121 x6_2).f5) true _ ?side1 ?side2 A21.out).mono ?_); (case side1 => repeat (first | exact (by repeat (first | (with_reducible exact HR126_5.out) | (with_reducible refine Kd.C_alloc ?_ _) | (with_reducible refine Kd.C_drewN ?_ _) | (with_reducible refine Kd.C_drew ?_) | exact HR126_5.out)) | (with_reducible refine Kd.C_alloc ?_ _) | (with_reducible refine Kd.C_drewN ?_ _) | (with_reducible refine Kd.C_drew ?_))); (case side2 => exact HC126_5.out); rintro e w29 ⟨rfl, hb⟩; refine ⟨_, rfl, ?_⟩; have n0_ := Aside0.mk (Kd.V_below (by (with_reducible repeat (first | apply Kd.V_alloc | apply Kd.V_drewN | apply Kd.V_drew)); exact HO_4.out) hb); have n1_ := Aside0.mk (Kd.V_below (by (with_reducible repeat (first | apply Kd.V_alloc | apply Kd.V_drewN | apply Kd.V_drew)); exact HL126_5.out) hb); have n2_ := Aside0.mk (blk_below (g := gb119) (o := .cells #[.int .i64 a0_0, .int .i64 a0_1, .int .i64 a0_2, .int .i64 a0_3, .int .i64 a0_4, .slice A0_5 l0_5.length c0_5] 24 (0, 0)) (by (with_reducible repeat (first | refine blk_drewN ?_ _ | refine blk_drew ?_ | refine blk_alloc ?_ _)); exact BK119.out) hb); have n3_ := Aside0.mk (Kd.C_below (by repeat (first | (with_reducible exact HR126_5.out) | (with_reducible refine Kd.C_alloc ?_ _) | (with_reducible refine Kd.C_drewN ?_ _) | (with_reducible refine Kd.C_drew ?_) | exact HR126_5.out)) hb); have n4_ := Aside0.mk (below_step (by repeat (first | (with_reducible first | exact HB.out | apply below_alloc | apply pw_below_drewN | apply below_drew1 | refine below_set ?_ GE119.out) | exact HB.out)) hb); clear HO_4; clear HL126_5; clear BK119; clear HR126_5; clear HB; have HO_4 := n0_; have HL126_5 := n1_; have BK119 := n2_; have HR126_5 := n3_; have HB := n4_; clear n0_ n1_ n2_ n3_ n4_; (try clear hb); (try clear hb2); (try clear hk); (try clear hi); have hcz30_0 : w29.cell? ⟨gb119, 0, none⟩ = some (.int .i64 a0_0) := (blk_cell BK119.out 0).trans rfl; have hcz30_1 : w29.cell? ⟨gb119, 1, none⟩ = some (.int .i64 a0_1) := (blk_cell BK119.out 1).trans rfl; have hcz30_2 : w29.cell? ⟨gb119, 2, none⟩ = some (.int .i64 a0_2) := (blk_cell BK119.out 2).trans rfl; have hcz30_3 : w29.cell? ⟨gb119, 3, none⟩ = some (.int .i64 a0_3) := (blk_cell BK119.out 3).trans rfl; have hcz30_4 : w29.cell? ⟨gb119, 4, none⟩ = some (.int .i64 a0_4) := (blk_cell BK119.out 4).trans rfl; have hcz30_5 : w29.cell? ⟨gb119, 5, none⟩ = some (.slice A0_5 l0_5.length c0_5) := (blk_cell BK119.out 5).trans rfl; have hfz30_0 := blk_frozen BK119.out 0; have hfz30_1 := blk_frozen BK119.out 1; have hfz30_2 := blk_frozen BK119.out 2; have hfz30_3 := blk_frozen BK119.out 3; have hfz30_4 := blk_frozen BK119.out 4; have hfz30_5 := blk_frozen BK119.out 5))
            go_roundg k2
            case measure => have := HK1.out; have := HK2.out; omega
            case rel => exact ⟨(wrap64 (x6_2 + 1)), (by first | rfl | (simp; done) | (simp [*]; done)), H', ⟨by have := HK1.out; have := HK2.out; omega⟩, ⟨by (with_reducible repeat (first | apply Kd.V_alloc | apply Kd.V_drewN | apply Kd.V_drew)); exact HO_4.out⟩, ⟨by (with_reducible repeat (first | refine blk_drewN ?_ _ | refine blk_drew ?_ | refine blk_alloc ?_ _)); exact BK119.out⟩, ⟨by repeat (first | (with_reducible first | exact HB.out | apply below_alloc | apply pw_below_drewN | apply below_drew1 | refine below_set ?_ GE119.out) | exact HB.out)⟩⟩
         ·replace c22 := Bool.eq_false_iff.mpr c22
          subst c22
          have H1 : (passepartoutref04_check.l1 k2 t121 (wrap64 (x6_2 + 1)) a0_0 a0_1 a0_2 a0_3 a0_4 l0_5) = some r := by rw [if_neg (show ¬ (false = true) by decide)] at H; exact H
          clear H
          have H := H1
          clear H1
          have H' := Aside0.mk H
          clear H
          have p126 : 0 ≤ (x6_2 : Int) := of_decide_eq_true (by first | (with_reducible assumption) | assumption)
          have q126 : x6_2 < (t121.length : Int) := of_decide_eq_true (by first | (with_reducible assumption) | assumption)
          obtain ⟨ad126, A126_5, c126_5, e126, hx126_0, hx126_1, hx126_2, hx126_3, hx126_4, hx126_5, hl126_5, hi126_5⟩ := at_T24 (Kd.V_reads' HO_4.out).2.2 x6_2 p126 q126
          cases e126
          obtain ⟨ce126, hce126, hMe126, hcc126⟩ := Kd.V_get HO_4.out z24 x6_2 p126 (by first | exact q126 | exact of_decide_eq_true (by first | (with_reducible assumption) | assumption) | (have e_ := (Kd.V_reads' HO_4.out).1; omega))
          obtain ⟨ua126_5, uc126_5, rfl, ul126_5, ge126_5⟩ := k24_openF hMe126
          have hv126_5 := hcc126 5 _ rfl
          rw [add_field _ _ 5 (by omega)] at hv126_5
          replace hv126_5 := Option.some.inj (hv126_5.symm.trans hx126_5)
          injection hv126_5 with hva_ hvn_ hvc_
          rw [hva_] at ge126_5
          rw [hvc_] at ul126_5
          have HL126_5 := Aside0.mk (show Kd.V k24 24 _ w.heap.size _ _ ((rd_T24 t121 x6_2).f5) from Kd.V_mk ul126_5 ge126_5)
          clear hva_ hvn_ hvc_ ge126_5 ul126_5
          clear hcc126 hce126
          have HR126_5 := Aside0.mk hi126_5
          have HC126_5 := Aside0.mk hl126_5
          clear hi126_5 hl126_5
          replace p126 := eq_true p126
          replace q126 := eq_true q126
          go_wp2_with (first | ((with_reducible refine gate_callee (f := 18) rfl ?_); refine goesL_ (some 39) rfl rfl Tryd.func18 (by kernel_rfl) rfl #[.agg #[.int .i64 ((rd_T24 t121 x6_2).f0), .int .i64 ((rd_T24 t121 x6_2).f1), .int .i64 ((rd_T24 t121 x6_2).f2), .int .i64 ((rd_T24 t121 x6_2).f3), .int .i64 ((rd_T24 t121 x6_2).f4), .slice A126_5 ((rd_T24 t121 x6_2).f5).length c126_5]] rfl (by (try simp only [List.map_toArray, List.map_cons, List.map_nil]); first | done | rfl | (simp only [List.length_drop, List.length_take]; rfl)) ?_; (with_reducible refine (passepartoutref04_Open.calls k2 ((rd_T24 t121 x6_2).f0) ((rd_T24 t121 x6_2).f1) ((rd_T24 t121 x6_2).f2) ((rd_T24 t121 x6_2).f3) ((rd_T24 t121 x6_2).f4) _ _ ((rd_T24 t121 x6_2).f5) false _ ?side1 ?side2 A21.out).mono ?_); (case side1 => repeat (first | exact (by repeat (first | (with_reducible exact HR126_5.out) | (with_reducible refine Kd.C_alloc ?_ _) | (with_reducible refine Kd.C_drewN ?_ _) | (with_reducible refine Kd.C_drew ?_) | exact HR126_5.out)) | (with_reducible refine Kd.C_alloc ?_ _) | (with_reducible refine Kd.C_drewN ?_ _) | (with_reducible refine Kd.C_drew ?_))); (case side2 => exact HC126_5.out); rintro e w31 ⟨rfl, hb⟩; refine ⟨_, rfl, ?_⟩; have n0_ := Aside0.mk (Kd.V_below (by (with_reducible repeat (first | apply Kd.V_alloc | apply Kd.V_drewN | apply Kd.V_drew)); exact HO_4.out) hb); have n1_ := Aside0.mk (Kd.V_below (by (with_reducible repeat (first | apply Kd.V_alloc | apply Kd.V_drewN | apply Kd.V_drew)); exact HL126_5.out) hb); have n2_ := Aside0.mk (blk_below (g := gb119) (o := .cells #[.int .i64 a0_0, .int .i64 a0_1, .int .i64 a0_2, .int .i64 a0_3, .int .i64 a0_4, .slice A0_5 l0_5.length c0_5] 24 (0, 0)) (by (with_reducible repeat (first | refine blk_drewN ?_ _ | refine blk_drew ?_ | refine blk_alloc ?_ _)); exact BK119.out) hb); have n3_ := Aside0.mk (Kd.C_below (by repeat (first | (with_reducible exact HR126_5.out) | (with_reducible refine Kd.C_alloc ?_ _) | (with_reducible refine Kd.C_drewN ?_ _) | (with_reducible refine Kd.C_drew ?_) | exact HR126_5.out)) hb); have n4_ := Aside0.mk (below_step (by repeat (first | (with_reducible first | exact HB.out | apply below_alloc | apply pw_below_drewN | apply below_drew1 | refine below_set ?_ GE119.out) | exact HB.out)) hb); clear HO_4; clear HL126_5; clear BK119; clear HR126_5; clear HB; have HO_4 := n0_; have HL126_5 := n1_; have BK119 := n2_; have HR126_5 := n3_; have HB := n4_; clear n0_ n1_ n2_ n3_ n4_; (try clear hb); (try clear hb2); (try clear hk); (try clear hi)))
          go_roundg k2
          case measure => have := HK1.out; have := HK2.out; omega
          case rel => exact ⟨(wrap64 (x6_2 + 1)), (by first | rfl | (simp; done) | (simp [*]; done)), H', ⟨by have := HK1.out; have := HK2.out; omega⟩, ⟨by (with_reducible repeat (first | apply Kd.V_alloc | apply Kd.V_drewN | apply Kd.V_drew)); exact HO_4.out⟩, ⟨by (with_reducible repeat (first | refine blk_drewN ?_ _ | refine blk_drew ?_ | refine blk_alloc ?_ _)); exact BK119.out⟩, ⟨by repeat (first | (with_reducible first | exact HB.out | apply below_alloc | apply pw_below_drewN | apply below_drew1 | refine below_set ?_ GE119.out) | exact HB.out)⟩⟩
        ·rw [if_neg c20] at H
         exact absurd H (by simp)
       ·rw [if_neg c19] at H
        have c19b0 : decide (x6_2 < (t121.length : Int)) = false := decide_eq_false c19
        clear c19
        by_cases c32 : a0_0 = 2
        ·rw [if_pos c32] at H
         have c32b0 : (a0_0 == 2) = true := beq_iff_eq.mpr c32
         have c32b1 : (a0_0 != 2) = false := bne_eq_false_iff_eq.mpr c32
         clear c32
         by_cases c33 : 0 < (t121.length : Int)
         ·rw [if_pos c33] at H
          have c33b0 : decide (0 < (t121.length : Int)) = true := decide_eq_true c33
          have c33b1 : decide (0 < t121.length) = true := decide_eq_true (by omega)
          clear c33
          replace H := Option.bind_eq_some_iff.mp H
          obtain ⟨t129, A340, H⟩ := H
          replace H : (if t129 = 0 then (some 15) else (some 0)) = some r := H
          have A34 := Aside0.mk A340
          clear A340
          by_cases c35 : t129 = 0
          ·rw [if_pos c35] at H
           have c35b0 : (t129 == 0) = true := beq_iff_eq.mpr c35
           have c35b1 : (t129 != 0) = false := bne_eq_false_iff_eq.mpr c35
           clear c35
           obtain rfl := Option.some.inj H
           have hcz36_0 : wr.cell? ⟨gb119, 0, none⟩ = some (.int .i64 a0_0) := (blk_cell BK119.out 0).trans rfl
           have hcz36_1 : wr.cell? ⟨gb119, 1, none⟩ = some (.int .i64 a0_1) := (blk_cell BK119.out 1).trans rfl
           have hcz36_2 : wr.cell? ⟨gb119, 2, none⟩ = some (.int .i64 a0_2) := (blk_cell BK119.out 2).trans rfl
           have hcz36_3 : wr.cell? ⟨gb119, 3, none⟩ = some (.int .i64 a0_3) := (blk_cell BK119.out 3).trans rfl
           have hcz36_4 : wr.cell? ⟨gb119, 4, none⟩ = some (.int .i64 a0_4) := (blk_cell BK119.out 4).trans rfl
           have hcz36_5 : wr.cell? ⟨gb119, 5, none⟩ = some (.slice A0_5 l0_5.length c0_5) := (blk_cell BK119.out 5).trans rfl
           have hfz36_0 := blk_frozen BK119.out 0
           have hfz36_1 := blk_frozen BK119.out 1
           have hfz36_2 := blk_frozen BK119.out 2
           have hfz36_3 := blk_frozen BK119.out 3
           have hfz36_4 := blk_frozen BK119.out 4
           have hfz36_5 := blk_frozen BK119.out 5
           have p128 : 0 ≤ (0 : Int) := (by omega)
           have q128 : 0 < (t121.length : Int) := of_decide_eq_true (by first | (with_reducible assumption) | assumption)
           obtain ⟨ad128, A128_5, c128_5, e128, hx128_0, hx128_1, hx128_2, hx128_3, hx128_4, hx128_5, hl128_5, hi128_5⟩ := at_T24 (Kd.V_reads' HO_4.out).2.2 0 p128 q128
           cases e128
           obtain ⟨ce128, hce128, hMe128, hcc128⟩ := Kd.V_get HO_4.out z24 0 p128 (by first | exact q128 | exact of_decide_eq_true (by first | (with_reducible assumption) | assumption) | (have e_ := (Kd.V_reads' HO_4.out).1; omega))
           obtain ⟨ua128_5, uc128_5, rfl, ul128_5, ge128_5⟩ := k24_openF hMe128
           have hv128_5 := hcc128 5 _ rfl
           rw [add_field _ _ 5 (by omega)] at hv128_5
           replace hv128_5 := Option.some.inj (hv128_5.symm.trans hx128_5)
           injection hv128_5 with hva_ hvn_ hvc_
           rw [hva_] at ge128_5
           rw [hvc_] at ul128_5
           have HL128_5 := Aside0.mk (show Kd.V k24 24 _ w.heap.size _ _ ((rd_T24 t121 0).f5) from Kd.V_mk ul128_5 ge128_5)
           clear hva_ hvn_ hvc_ ge128_5 ul128_5
           clear hcc128 hce128
           have qi128 : (0 < t121.length) = True := eq_true (by omega)
           (try rw [show ((0 : Int)).toNat = 0 from rfl] at hx128_0)
           (try rw [show 0 * 6 = 0 from rfl] at hx128_0)
           (try rw [Addr.add_zero'] at hx128_0)
           (try rw [show ((0 : Int)).toNat = 0 from rfl] at hx128_1)
           (try rw [show 0 * 6 = 0 from rfl] at hx128_1)
           (try rw [Addr.add_zero'] at hx128_1)
           (try rw [show ((0 : Int)).toNat = 0 from rfl] at hx128_2)
           (try rw [show 0 * 6 = 0 from rfl] at hx128_2)
           (try rw [Addr.add_zero'] at hx128_2)
           (try rw [show ((0 : Int)).toNat = 0 from rfl] at hx128_3)
           (try rw [show 0 * 6 = 0 from rfl] at hx128_3)
           (try rw [Addr.add_zero'] at hx128_3)
           (try rw [show ((0 : Int)).toNat = 0 from rfl] at hx128_4)
           (try rw [show 0 * 6 = 0 from rfl] at hx128_4)
           (try rw [Addr.add_zero'] at hx128_4)
           (try rw [show ((0 : Int)).toNat = 0 from rfl] at hx128_5)
           (try rw [show 0 * 6 = 0 from rfl] at hx128_5)
           (try rw [Addr.add_zero'] at hx128_5)
           have HR128_5 := Aside0.mk hi128_5
           have HC128_5 := Aside0.mk hl128_5
           clear hi128_5 hl128_5
           replace p128 := eq_true p128
           replace q128 := eq_true q128
           go_wp2_with (first | (go_at_call 17; (with_reducible refine (passepartoutref04_Least.calls k2 ((rd_T24 t121 0).f0) ((rd_T24 t121 0).f1) ((rd_T24 t121 0).f2) ((rd_T24 t121 0).f3) ((rd_T24 t121 0).f4) _ _ ((rd_T24 t121 0).f5) t129 _ ?side1 ?side2 A34.out).mono ?_); (case side1 => repeat (first | exact (by repeat (first | (with_reducible exact HR128_5.out) | (with_reducible refine Kd.C_alloc ?_ _) | (with_reducible refine Kd.C_drewN ?_ _) | (with_reducible refine Kd.C_drew ?_) | exact HR128_5.out)) | (with_reducible refine Kd.C_alloc ?_ _) | (with_reducible refine Kd.C_drewN ?_ _) | (with_reducible refine Kd.C_drew ?_))); (case side2 => exact HC128_5.out); rintro e w37 ⟨rfl, hb⟩; have n0_ := Aside0.mk (Kd.V_below (by (with_reducible repeat (first | apply Kd.V_alloc | apply Kd.V_drewN | apply Kd.V_drew)); exact HO_4.out) hb); have n1_ := Aside0.mk (Kd.V_below (by (with_reducible repeat (first | apply Kd.V_alloc | apply Kd.V_drewN | apply Kd.V_drew)); exact HL128_5.out) hb); have n2_ := Aside0.mk (blk_below (g := gb119) (o := .cells #[.int .i64 a0_0, .int .i64 a0_1, .int .i64 a0_2, .int .i64 a0_3, .int .i64 a0_4, .slice A0_5 l0_5.length c0_5] 24 (0, 0)) (by (with_reducible repeat (first | refine blk_drewN ?_ _ | refine blk_drew ?_ | refine blk_alloc ?_ _)); exact BK119.out) hb); have n3_ := Aside0.mk (Kd.C_below (by repeat (first | (with_reducible exact HR128_5.out) | (with_reducible refine Kd.C_alloc ?_ _) | (with_reducible refine Kd.C_drewN ?_ _) | (with_reducible refine Kd.C_drew ?_) | exact HR128_5.out)) hb); have n4_ := Aside0.mk (below_step (by repeat (first | (with_reducible first | exact HB.out | apply below_alloc | apply pw_below_drewN | apply below_drew1 | refine below_set ?_ GE119.out) | exact HB.out)) hb); clear HO_4; clear HL128_5; clear BK119; clear HR128_5; clear HB; have HO_4 := n0_; have HL128_5 := n1_; have BK119 := n2_; have HR128_5 := n3_; have HB := n4_; clear n0_ n1_ n2_ n3_ n4_; (try clear hb); (try clear hb2); (try clear hk); (try clear hi)))
           go_ret
           exact ⟨by first | rfl | (simp [errW_none, errW_some] <;> rfl) | (simp [*, errW_none, errW_some] <;> rfl), by repeat (first | (with_reducible first | exact HB.out | apply below_alloc | apply pw_below_drewN | apply below_drew1 | refine below_set ?_ GE119.out) | exact HB.out)⟩
          ·rw [if_neg c35] at H
           have c35b0 : (t129 == 0) = false := beq_eq_false_iff_ne.mpr c35
           have c35b1 : (t129 != 0) = true := bne_iff_ne.mpr c35
           obtain rfl := Option.some.inj H
           have hcz38_0 : wr.cell? ⟨gb119, 0, none⟩ = some (.int .i64 a0_0) := (blk_cell BK119.out 0).trans rfl
           have hcz38_1 : wr.cell? ⟨gb119, 1, none⟩ = some (.int .i64 a0_1) := (blk_cell BK119.out 1).trans rfl
           have hcz38_2 : wr.cell? ⟨gb119, 2, none⟩ = some (.int .i64 a0_2) := (blk_cell BK119.out 2).trans rfl
           have hcz38_3 : wr.cell? ⟨gb119, 3, none⟩ = some (.int .i64 a0_3) := (blk_cell BK119.out 3).trans rfl
           have hcz38_4 : wr.cell? ⟨gb119, 4, none⟩ = some (.int .i64 a0_4) := (blk_cell BK119.out 4).trans rfl
           have hcz38_5 : wr.cell? ⟨gb119, 5, none⟩ = some (.slice A0_5 l0_5.length c0_5) := (blk_cell BK119.out 5).trans rfl
           have hfz38_0 := blk_frozen BK119.out 0
           have hfz38_1 := blk_frozen BK119.out 1
           have hfz38_2 := blk_frozen BK119.out 2
           have hfz38_3 := blk_frozen BK119.out 3
           have hfz38_4 := blk_frozen BK119.out 4
           have hfz38_5 := blk_frozen BK119.out 5
           have p128 : 0 ≤ (0 : Int) := (by omega)
           have q128 : 0 < (t121.length : Int) := of_decide_eq_true (by first | (with_reducible assumption) | assumption)
           obtain ⟨ad128, A128_5, c128_5, e128, hx128_0, hx128_1, hx128_2, hx128_3, hx128_4, hx128_5, hl128_5, hi128_5⟩ := at_T24 (Kd.V_reads' HO_4.out).2.2 0 p128 q128
           cases e128
           obtain ⟨ce128, hce128, hMe128, hcc128⟩ := Kd.V_get HO_4.out z24 0 p128 (by first | exact q128 | exact of_decide_eq_true (by first | (with_reducible assumption) | assumption) | (have e_ := (Kd.V_reads' HO_4.out).1; omega))
           obtain ⟨ua128_5, uc128_5, rfl, ul128_5, ge128_5⟩ := k24_openF hMe128
           have hv128_5 := hcc128 5 _ rfl
           rw [add_field _ _ 5 (by omega)] at hv128_5
           replace hv128_5 := Option.some.inj (hv128_5.symm.trans hx128_5)
           injection hv128_5 with hva_ hvn_ hvc_
           rw [hva_] at ge128_5
           rw [hvc_] at ul128_5
           have HL128_5 := Aside0.mk (show Kd.V k24 24 _ w.heap.size _ _ ((rd_T24 t121 0).f5) from Kd.V_mk ul128_5 ge128_5)
           clear hva_ hvn_ hvc_ ge128_5 ul128_5
           clear hcc128 hce128
           have qi128 : (0 < t121.length) = True := eq_true (by omega)
           (try rw [show ((0 : Int)).toNat = 0 from rfl] at hx128_0)
           (try rw [show 0 * 6 = 0 from rfl] at hx128_0)
           (try rw [Addr.add_zero'] at hx128_0)
           (try rw [show ((0 : Int)).toNat = 0 from rfl] at hx128_1)
           (try rw [show 0 * 6 = 0 from rfl] at hx128_1)
           (try rw [Addr.add_zero'] at hx128_1)
           (try rw [show ((0 : Int)).toNat = 0 from rfl] at hx128_2)
           (try rw [show 0 * 6 = 0 from rfl] at hx128_2)
           (try rw [Addr.add_zero'] at hx128_2)
           (try rw [show ((0 : Int)).toNat = 0 from rfl] at hx128_3)
           (try rw [show 0 * 6 = 0 from rfl] at hx128_3)
           (try rw [Addr.add_zero'] at hx128_3)
           (try rw [show ((0 : Int)).toNat = 0 from rfl] at hx128_4)
           (try rw [show 0 * 6 = 0 from rfl] at hx128_4)
           (try rw [Addr.add_zero'] at hx128_4)
           (try rw [show ((0 : Int)).toNat = 0 from rfl] at hx128_5)
           (try rw [show 0 * 6 = 0 from rfl] at hx128_5)
           (try rw [Addr.add_zero'] at hx128_5)
           have HR128_5 := Aside0.mk hi128_5
           have HC128_5 := Aside0.mk hl128_5
           clear hi128_5 hl128_5
           replace p128 := eq_true p128
           replace q128 := eq_true q128
           go_wp2_with (first | (go_at_call 17; (with_reducible refine (passepartoutref04_Least.calls k2 ((rd_T24 t121 0).f0) ((rd_T24 t121 0).f1) ((rd_T24 t121 0).f2) ((rd_T24 t121 0).f3) ((rd_T24 t121 0).f4) _ _ ((rd_T24 t121 0).f5) t129 _ ?side1 ?side2 A34.out).mono ?_); (case side1 => repeat (first | exact (by repeat (first | (with_reducible exact HR128_5.out) | (with_reducible refine Kd.C_alloc ?_ _) | (with_reducible refine Kd.C_drewN ?_ _) | (with_reducible refine Kd.C_drew ?_) | exact HR128_5.out)) | (with_reducible refine Kd.C_alloc ?_ _) | (with_reducible refine Kd.C_drewN ?_ _) | (with_reducible refine Kd.C_drew ?_))); (case side2 => exact HC128_5.out); rintro e w39 ⟨rfl, hb⟩; have n0_ := Aside0.mk (Kd.V_below (by (with_reducible repeat (first | apply Kd.V_alloc | apply Kd.V_drewN | apply Kd.V_drew)); exact HO_4.out) hb); have n1_ := Aside0.mk (Kd.V_below (by (with_reducible repeat (first | apply Kd.V_alloc | apply Kd.V_drewN | apply Kd.V_drew)); exact HL128_5.out) hb); have n2_ := Aside0.mk (blk_below (g := gb119) (o := .cells #[.int .i64 a0_0, .int .i64 a0_1, .int .i64 a0_2, .int .i64 a0_3, .int .i64 a0_4, .slice A0_5 l0_5.length c0_5] 24 (0, 0)) (by (with_reducible repeat (first | refine blk_drewN ?_ _ | refine blk_drew ?_ | refine blk_alloc ?_ _)); exact BK119.out) hb); have n3_ := Aside0.mk (Kd.C_below (by repeat (first | (with_reducible exact HR128_5.out) | (with_reducible refine Kd.C_alloc ?_ _) | (with_reducible refine Kd.C_drewN ?_ _) | (with_reducible refine Kd.C_drew ?_) | exact HR128_5.out)) hb); have n4_ := Aside0.mk (below_step (by repeat (first | (with_reducible first | exact HB.out | apply below_alloc | apply pw_below_drewN | apply below_drew1 | refine below_set ?_ GE119.out) | exact HB.out)) hb); clear HO_4; clear HL128_5; clear BK119; clear HR128_5; clear HB; have HO_4 := n0_; have HL128_5 := n1_; have BK119 := n2_; have HR128_5 := n3_; have HB := n4_; clear n0_ n1_ n2_ n3_ n4_; (try clear hb); (try clear hb2); (try clear hk); (try clear hi)))
           go_ret
           exact ⟨by first | rfl | (simp [errW_none, errW_some] <;> rfl) | (simp [*, errW_none, errW_some] <;> rfl), by repeat (first | (with_reducible first | exact HB.out | apply below_alloc | apply pw_below_drewN | apply below_drew1 | refine below_set ?_ GE119.out) | exact HB.out)⟩
         ·rw [if_neg c33] at H
          exact absurd H (by simp)
        ·rw [if_neg c32] at H
         have c32b0 : (a0_0 == 2) = false := beq_eq_false_iff_ne.mpr c32
         have c32b1 : (a0_0 != 2) = true := bne_iff_ne.mpr c32
         obtain rfl := Option.some.inj H
         have hcz40_0 : wr.cell? ⟨gb119, 0, none⟩ = some (.int .i64 a0_0) := (blk_cell BK119.out 0).trans rfl
         have hcz40_1 : wr.cell? ⟨gb119, 1, none⟩ = some (.int .i64 a0_1) := (blk_cell BK119.out 1).trans rfl
         have hcz40_2 : wr.cell? ⟨gb119, 2, none⟩ = some (.int .i64 a0_2) := (blk_cell BK119.out 2).trans rfl
         have hcz40_3 : wr.cell? ⟨gb119, 3, none⟩ = some (.int .i64 a0_3) := (blk_cell BK119.out 3).trans rfl
         have hcz40_4 : wr.cell? ⟨gb119, 4, none⟩ = some (.int .i64 a0_4) := (blk_cell BK119.out 4).trans rfl
         have hcz40_5 : wr.cell? ⟨gb119, 5, none⟩ = some (.slice A0_5 l0_5.length c0_5) := (blk_cell BK119.out 5).trans rfl
         have hfz40_0 := blk_frozen BK119.out 0
         have hfz40_1 := blk_frozen BK119.out 1
         have hfz40_2 := blk_frozen BK119.out 2
         have hfz40_3 := blk_frozen BK119.out 3
         have hfz40_4 := blk_frozen BK119.out 4
         have hfz40_5 := blk_frozen BK119.out 5
         go_wp2
         go_ret
         exact ⟨by first | rfl | (simp [errW_none, errW_some] <;> rfl) | (simp [*, errW_none, errW_some] <;> rfl), by repeat (first | (with_reducible first | exact HB.out | apply below_alloc | apply pw_below_drewN | apply below_drew1 | refine below_set ?_ GE119.out) | exact HB.out)⟩
 ·rw [if_neg c3] at H
  have c3b0 : (t120 == 0) = false := beq_eq_false_iff_ne.mpr c3
  have c3b1 : (t120 != 0) = true := bne_iff_ne.mpr c3
  obtain rfl := Option.some.inj H
  go_enter Tryd.func30, Tryd.ntmps30
  go_wp2_with (first | ((with_reducible refine gate_dst (N := 1) rfl ?_); (try (refine gate_guard (by rfl) ?_; dsimp only)); refine box_event ?hg (N := 1) ?hd (cs := #[.int .i64 a0_0, .int .i64 a0_1, .int .i64 a0_2, .int .i64 a0_3, .int .i64 a0_4, .slice A0_5 l0_5.length c0_5]) (t := 24) ?hr ?_; (case hd => rfl); (case hg => rfl); (case hr => first | (go_simp; done) | (go_simp; rfl)); intro gb119 hg w41 hbox hb; have n0_ := Aside0.mk (below_step (by repeat (first | (with_reducible first | exact HB.out | apply below_alloc | apply pw_below_drewN | apply below_drew1) | exact HB.out)) hb); have n1_ := Aside0.mk (hbox); have n2_ := Aside0.mk ((by rw [hg]; exact (below_size (by repeat (first | (with_reducible first | exact HB.out | apply below_alloc | apply pw_below_drewN | apply below_drew1) | exact HB.out))) : w.heap.size ≤ gb119)); have n3_ := Aside0.mk ((by rw [hg]; exact (below_size (by repeat (first | (with_reducible first | exact HB.out | apply below_alloc | apply pw_below_drewN | apply below_drew1) | exact HB.out))) : w.heap.size ≤ gb119)); clear HB; have HB := n0_; have BK119 := n1_; have GW119 := n2_; have GE119 := n3_; clear n0_ n1_ n2_ n3_; clear hb hbox hg; have hcz42_0 : w41.cell? ⟨gb119, 0, none⟩ = some (.int .i64 a0_0) := (blk_cell BK119.out 0).trans rfl; have hcz42_1 : w41.cell? ⟨gb119, 1, none⟩ = some (.int .i64 a0_1) := (blk_cell BK119.out 1).trans rfl; have hcz42_2 : w41.cell? ⟨gb119, 2, none⟩ = some (.int .i64 a0_2) := (blk_cell BK119.out 2).trans rfl; have hcz42_3 : w41.cell? ⟨gb119, 3, none⟩ = some (.int .i64 a0_3) := (blk_cell BK119.out 3).trans rfl; have hcz42_4 : w41.cell? ⟨gb119, 4, none⟩ = some (.int .i64 a0_4) := (blk_cell BK119.out 4).trans rfl; have hcz42_5 : w41.cell? ⟨gb119, 5, none⟩ = some (.slice A0_5 l0_5.length c0_5) := (blk_cell BK119.out 5).trans rfl; have hfz42_0 := blk_frozen BK119.out 0; have hfz42_1 := blk_frozen BK119.out 1; have hfz42_2 := blk_frozen BK119.out 2; have hfz42_3 := blk_frozen BK119.out 3; have hfz42_4 := blk_frozen BK119.out 4; have hfz42_5 := blk_frozen BK119.out 5) | ((with_reducible refine gate_callee (f := 46) rfl ?_); refine goesL_ (some 9) rfl rfl Tryd.func46 (by kernel_rfl) rfl #[.agg #[.int .i64 a0_0, .int .i64 a0_1, .int .i64 a0_2, .int .i64 a0_3, .int .i64 a0_4, .slice A0_5 l0_5.length c0_5]] rfl (by (try simp only [List.map_toArray, List.map_cons, List.map_nil]); first | done | rfl | (simp only [List.length_drop, List.length_take]; rfl)) ?_; (with_reducible refine (passepartoutref04_own.calls a0_0 a0_1 a0_2 a0_3 a0_4 _ _ l0_5 t120 _ ?side1 ?side2 A2.out).mono ?_); (case side1 => repeat (first | exact (Kd.C_below HR0_5.out HB.out) | (with_reducible refine Kd.C_alloc ?_ _) | (with_reducible refine Kd.C_drewN ?_ _) | (with_reducible refine Kd.C_drew ?_))); (case side2 => exact HC0_5.out); rintro e w43 ⟨rfl, hb⟩; refine ⟨_, rfl, ?_⟩; have n0_ := Aside0.mk (blk_below (g := gb119) (o := .cells #[.int .i64 a0_0, .int .i64 a0_1, .int .i64 a0_2, .int .i64 a0_3, .int .i64 a0_4, .slice A0_5 l0_5.length c0_5] 24 (0, 0)) (by (with_reducible repeat (first | refine blk_drewN ?_ _ | refine blk_drew ?_ | refine blk_alloc ?_ _)); exact BK119.out) hb); have n1_ := Aside0.mk (below_step (by repeat (first | (with_reducible first | exact HB.out | apply below_alloc | apply pw_below_drewN | apply below_drew1 | refine below_set ?_ GE119.out) | exact HB.out)) hb); clear BK119; clear HB; have BK119 := n0_; have HB := n1_; clear n0_ n1_; (try clear hb); (try clear hb2); (try clear hk); (try clear hi)))
  go_ret
  exact ⟨by first | rfl | (simp [errW_none, errW_some] <;> rfl) | (simp [*, errW_none, errW_some] <;> rfl), by repeat (first | (with_reducible first | exact HB.out | apply below_alloc | apply pw_below_drewN | apply below_drew1 | refine below_set ?_ GE119.out) | exact HB.out)⟩

end Go.Proofs.YtdhnfccgojgehaaDoor.QP

namespace Go.Proofs.YtdhnfccgojgehaaDoor.QP
open Go.RowKit Go.Proofs.YtdhnfccgojgehaaDoorW.PrintWords Go.Proofs.YtdhnfccgojgehaaDoorW.PrintLast Go.Proofs.YtdhnfccgojgehaaDoorW.PrintMore
attribute [local go_sem] max2_int min2_int max_two min_two max_three min_three max_four min_four   -- for this text's walks alone
set_option linter.unusedVariables false
set_option linter.unusedSimpArgs false

/-! ### passepartoutref04_Check: function 16 -/
def passepartoutref04_Check.f (k : Nat) (a0_0 : Int) (a0_1 : Int) (a0_2 : Int) (a0_3 : Int) (a0_4 : Int) (l0_5 : List (S24)) : Option (Int) := (passepartoutref04_Depth.f k a0_0 a0_1 a0_2 a0_3 a0_4 l0_5 9).bind fun t131 => (if t131 > 8 then (some 14) else ((passepartoutref04_check.f k a0_0 a0_1 a0_2 a0_3 a0_4 l0_5).bind fun t132 => (some t132)))
theorem passepartoutref04_Check.mono : ∀ a0 a1 a2 a3 a4 a5 k, LeO (passepartoutref04_Check.f k a0 a1 a2 a3 a4 a5) (passepartoutref04_Check.f (k + 1) a0 a1 a2 a3 a4 a5) := by
 intro a0 a1 a2 a3 a4 a5 k
 unfold passepartoutref04_Check.f
 repeat' first
   | (with_reducible exact passepartoutref04_Depth.mono _ _ _ _ _ _ _ _)
   | (with_reducible exact passepartoutref04_check.mono _ _ _ _ _ _ _)
   | (with_reducible exact LeO.refl _)
   | (with_reducible exact LeO.none _)
   | (with_reducible refine LeO.ite ?_ ?_)
   | (with_reducible refine LeO.bind ?_ (fun _ => ?_))
   | exact passepartoutref04_Depth.mono _ _ _ _ _ _ _ _
   | exact passepartoutref04_check.mono _ _ _ _ _ _ _
   | exact LeO.none _
   | refine LeO.ite ?_ ?_
   | refine LeO.bind ?_ (fun _ => ?_)
set_option maxHeartbeats 8000000 in
set_option maxRecDepth 100000 in
theorem passepartoutref04_Check.calls (k : Nat) (a0_0 : Int) (a0_1 : Int) (a0_2 : Int) (a0_3 : Int) (a0_4 : Int) (A0_5 : Option Addr) (c0_5 : Nat) (l0_5 : List (S24)) (r : Int) (w : World) (hr0_5 : Kd.C k24 w A0_5 l0_5.length l0_5) (hc0_5 : l0_5.length ≤ c0_5) (h : passepartoutref04_Check.f k a0_0 a0_1 a0_2 a0_3 a0_4 l0_5 = some r) :
  Calls Tryd.prog 16 #[.agg #[.int .i64 a0_0, .int .i64 a0_1, .int .i64 a0_2, .int .i64 a0_3, .int .i64 a0_4, .slice A0_5 l0_5.length c0_5]] w fun e w' => e = .returned (.int .i64 r) ∧ Below w.heap.size w w' := by
 have hu24 := Tryd.underlying24
 have HR0_5 := Aside0.mk hr0_5
 have HC0_5 := Aside0.mk hc0_5
 clear hr0_5 hc0_5
 have HB := Aside0.mk (Below.refl w.heap.size w)
 have H : ((passepartoutref04_Depth.f k a0_0 a0_1 a0_2 a0_3 a0_4 l0_5 9).bind fun t131 => (if t131 > 8 then (some 14) else ((passepartoutref04_check.f k a0_0 a0_1 a0_2 a0_3 a0_4 l0_5).bind fun t132 => (some t132)))) = some r := h
 clear h
 replace H := Option.bind_eq_some_iff.mp H
 obtain ⟨t131, A20, H⟩ := H
 replace H : (if t131 > 8 then (some 14) else ((passepartoutref04_check.f k a0_0 a0_1 a0_2 a0_3 a0_4 l0_5).bind fun t132 => (some t132))) = some r := H
 have A2 := Aside0.mk A20
 clear A20
 by_cases c3 : t131 > 8
 ·rw [if_pos c3] at H
  have c3b0 : decide (8 < t131) = true := decide_eq_true c3
  clear c3
  obtain rfl := Option.some.inj H
  go_enter Tryd.func16, Tryd.ntmps16
  go_wp2_with (first | ((with_reducible refine gate_dst (N := 1) rfl ?_); refine box_event ?hg (N := 1) ?hd (cs := #[.int .i64 a0_0, .int .i64 a0_1, .int .i64 a0_2, .int .i64 a0_3, .int .i64 a0_4, .slice A0_5 l0_5.length c0_5]) (t := 24) ?hr ?_; (case hd => rfl); (case hg => rfl); (case hr => first | (go_simp; done) | (go_simp; rfl)); intro gb130 hg w4 hbox hb; have n0_ := Aside0.mk (below_step (by repeat (first | (with_reducible first | exact HB.out | apply below_alloc | apply pw_below_drewN | apply below_drew1) | exact HB.out)) hb); have n1_ := Aside0.mk (hbox); have n2_ := Aside0.mk ((by rw [hg]; exact (below_size (by repeat (first | (with_reducible first | exact HB.out | apply below_alloc | apply pw_below_drewN | apply below_drew1) | exact HB.out))) : w.heap.size ≤ gb130)); have n3_ := Aside0.mk ((by rw [hg]; exact (below_size (by repeat (first | (with_reducible first | exact HB.out | apply below_alloc | apply pw_below_drewN | apply below_drew1) | exact HB.out))) : w.heap.size ≤ gb130)); clear HB; have HB := n0_; have BK130 := n1_; have GW130 := n2_; have GE130 := n3_; clear n0_ n1_ n2_ n3_; clear hb hbox hg; have hcz5_0 : w4.cell? ⟨gb130, 0, none⟩ = some (.int .i64 a0_0) := (blk_cell BK130.out 0).trans rfl; have hcz5_1 : w4.cell? ⟨gb130, 1, none⟩ = some (.int .i64 a0_1) := (blk_cell BK130.out 1).trans rfl; have hcz5_2 : w4.cell? ⟨gb130, 2, none⟩ = some (.int .i64 a0_2) := (blk_cell BK130.out 2).trans rfl; have hcz5_3 : w4.cell? ⟨gb130, 3, none⟩ = some (.int .i64 a0_3) := (blk_cell BK130.out 3).trans rfl; have hcz5_4 : w4.cell? ⟨gb130, 4, none⟩ = some (.int .i64 a0_4) := (blk_cell BK130.out 4).trans rfl; have hcz5_5 : w4.cell? ⟨gb130, 5, none⟩ = some (.slice A0_5 l0_5.length c0_5) := (blk_cell BK130.out 5).trans rfl; have hfz5_0 := blk_frozen BK130.out 0; have hfz5_1 := blk_frozen BK130.out 1; have hfz5_2 := blk_frozen BK130.out 2; have hfz5_3 := blk_frozen BK130.out 3; have hfz5_4 := blk_frozen BK130.out 4; have hfz5_5 := blk_frozen BK130.out 5) | ((with_reducible refine gate_callee (f := 29) rfl ?_); refine goesL_ (some 4) rfl rfl Tryd.func29 (by kernel_rfl) rfl #[.agg #[.int .i64 a0_0, .int .i64 a0_1, .int .i64 a0_2, .int .i64 a0_3, .int .i64 a0_4, .slice A0_5 l0_5.length c0_5], .int .i64 9] rfl (by (try simp only [List.map_toArray, List.map_cons, List.map_nil]); first | done | rfl | (simp only [List.length_drop, List.length_take]; rfl)) ?_; (with_reducible refine (passepartoutref04_Depth.calls k a0_0 a0_1 a0_2 a0_3 a0_4 _ _ l0_5 9 t131 _ ?side1 ?side2 A2.out).mono ?_); (case side1 => repeat (first | exact (Kd.C_below HR0_5.out HB.out) | (with_reducible refine Kd.C_alloc ?_ _) | (with_reducible refine Kd.C_drewN ?_ _) | (with_reducible refine Kd.C_drew ?_))); (case side2 => exact HC0_5.out); rintro e w6 ⟨rfl, hb⟩; refine ⟨_, rfl, ?_⟩; have n0_ := Aside0.mk (blk_below (g := gb130) (o := .cells #[.int .i64 a0_0, .int .i64 a0_1, .int .i64 a0_2, .int .i64 a0_3, .int .i64 a0_4, .slice A0_5 l0_5.length c0_5] 24 (0, 0)) (by (with_reducible repeat (first | refine blk_drewN ?_ _ | refine blk_drew ?_ | refine blk_alloc ?_ _)); exact BK130.out) hb); have n1_ := Aside0.mk (below_step (by repeat (first | (with_reducible first | exact HB.out | apply below_alloc | apply pw_below_drewN | apply below_drew1 | refine below_set ?_ GE130.out) | exact HB.out)) hb); clear BK130; clear HB; have BK130 := n0_; have HB := n1_; clear n0_ n1_; (try clear hb); (try clear hb2); (try clear hk); (try clear hi)))
  go_ret
  exact ⟨by first | rfl | (simp [errW_none, errW_some] <;> rfl) | (simp [*, errW_none, errW_some] <;> rfl), by repeat (first | (with_reducible first | exact HB.out | apply below_alloc | apply pw_below_drewN | apply below_drew1 | refine below_set ?_ GE130.out) | exact HB.out)⟩
 ·rw [if_neg c3] at H
  have c3b0 : decide (8 < t131) = false := decide_eq_false c3
  clear c3
  replace H := Option.bind_eq_some_iff.mp H
  obtain ⟨t132, A70, H⟩ := H
  replace H : (some t132) = some r := H
  have A7 := Aside0.mk A70
  clear A70
  obtain rfl := Option.some.inj H
  go_enter Tryd.func16, Tryd.ntmps16
  go_wp2_with (first | ((with_reducible refine gate_dst (N := 1) rfl ?_); refine box_event ?hg (N := 1) ?hd (cs := #[.int .i64 a0_0, .int .i64 a0_1, .int .i64 a0_2, .int .i64 a0_3, .int .i64 a0_4, .slice A0_5 l0_5.length c0_5]) (t := 24) ?hr ?_; (case hd => rfl); (case hg => rfl); (case hr => first | (go_simp; done) | (go_simp; rfl)); intro gb130 hg w8 hbox hb; have n0_ := Aside0.mk (below_step (by repeat (first | (with_reducible first | exact HB.out | apply below_alloc | apply pw_below_drewN | apply below_drew1) | exact HB.out)) hb); have n1_ := Aside0.mk (hbox); have n2_ := Aside0.mk ((by rw [hg]; exact (below_size (by repeat (first | (with_reducible first | exact HB.out | apply below_alloc | apply pw_below_drewN | apply below_drew1) | exact HB.out))) : w.heap.size ≤ gb130)); have n3_ := Aside0.mk ((by rw [hg]; exact (below_size (by repeat (first | (with_reducible first | exact HB.out | apply below_alloc | apply pw_below_drewN | apply below_drew1) | exact HB.out))) : w.heap.size ≤ gb130)); clear HB; have HB := n0_; have BK130 := n1_; have GW130 := n2_; have GE130 := n3_; clear n0_ n1_ n2_ n3_; clear hb hbox hg; have hcz9_0 : w8.cell? ⟨gb130, 0, none⟩ = some (.int .i64 a0_0) := (blk_cell BK130.out 0).trans rfl; have hcz9_1 : w8.cell? ⟨gb130, 1, none⟩ = some (.int .i64 a0_1) := (blk_cell BK130.out 1).trans rfl; have hcz9_2 : w8.cell? ⟨gb130, 2, none⟩ = some (.int .i64 a0_2) := (blk_cell BK130.out 2).trans rfl; have hcz9_3 : w8.cell? ⟨gb130, 3, none⟩ = some (.int .i64 a0_3) := (blk_cell BK130.out 3).trans rfl; have hcz9_4 : w8.cell? ⟨gb130, 4, none⟩ = some (.int .i64 a0_4) := (blk_cell BK130.out 4).trans rfl; have hcz9_5 : w8.cell? ⟨gb130, 5, none⟩ = some (.slice A0_5 l0_5.length c0_5) := (blk_cell BK130.out 5).trans rfl; have hfz9_0 := blk_frozen BK130.out 0; have hfz9_1 := blk_frozen BK130.out 1; have hfz9_2 := blk_frozen BK130.out 2; have hfz9_3 := blk_frozen BK130.out 3; have hfz9_4 := blk_frozen BK130.out 4; have hfz9_5 := blk_frozen BK130.out 5) | ((with_reducible refine gate_callee (f := 29) rfl ?_); refine goesL_ (some 4) rfl rfl Tryd.func29 (by kernel_rfl) rfl #[.agg #[.int .i64 a0_0, .int .i64 a0_1, .int .i64 a0_2, .int .i64 a0_3, .int .i64 a0_4, .slice A0_5 l0_5.length c0_5], .int .i64 9] rfl (by (try simp only [List.map_toArray, List.map_cons, List.map_nil]); first | done | rfl | (simp only [List.length_drop, List.length_take]; rfl)) ?_; (with_reducible refine (passepartoutref04_Depth.calls k a0_0 a0_1 a0_2 a0_3 a0_4 _ _ l0_5 9 t131 _ ?side1 ?side2 A2.out).mono ?_); (case side1 => repeat (first | exact (Kd.C_below HR0_5.out HB.out) | (with_reducible refine Kd.C_alloc ?_ _) | (with_reducible refine Kd.C_drewN ?_ _) | (with_reducible refine Kd.C_drew ?_))); (case side2 => exact HC0_5.out); rintro e w10 ⟨rfl, hb⟩; refine ⟨_, rfl, ?_⟩; have n0_ := Aside0.mk (blk_below (g := gb130) (o := .cells #[.int .i64 a0_0, .int .i64 a0_1, .int .i64 a0_2, .int .i64 a0_3, .int .i64 a0_4, .slice A0_5 l0_5.length c0_5] 24 (0, 0)) (by (with_reducible repeat (first | refine blk_drewN ?_ _ | refine blk_drew ?_ | refine blk_alloc ?_ _)); exact BK130.out) hb); have n1_ := Aside0.mk (below_step (by repeat (first | (with_reducible first | exact HB.out | apply below_alloc | apply pw_below_drewN | apply below_drew1 | refine below_set ?_ GE130.out) | exact HB.out)) hb); clear BK130; clear HB; have BK130 := n0_; have HB := n1_; clear n0_ n1_; (try clear hb); (try clear hb2); (try clear hk); (try clear hi); have hcz11_0 : w10.cell? ⟨gb130, 0, none⟩ = some (.int .i64 a0_0) := (blk_cell BK130.out 0).trans rfl; have hcz11_1 : w10.cell? ⟨gb130, 1, none⟩ = some (.int .i64 a0_1) := (blk_cell BK130.out 1).trans rfl; have hcz11_2 : w10.cell? ⟨gb130, 2, none⟩ = some (.int .i64 a0_2) := (blk_cell BK130.out 2).trans rfl; have hcz11_3 : w10.cell? ⟨gb130, 3, none⟩ = some (.int .i64 a0_3) := (blk_cell BK130.out 3).trans rfl; have hcz11_4 : w10.cell? ⟨gb130, 4, none⟩ = some (.int .i64 a0_4) := (blk_cell BK130.out 4).trans rfl; have hcz11_5 : w10.cell? ⟨gb130, 5, none⟩ = some (.slice A0_5 l0_5.length c0_5) := (blk_cell BK130.out 5).trans rfl; have hfz11_0 := blk_frozen BK130.out 0; have hfz11_1 := blk_frozen BK130.out 1; have hfz11_2 := blk_frozen BK130.out 2; have hfz11_3 := blk_frozen BK130.out 3; have hfz11_4 := blk_frozen BK130.out 4; have hfz11_5 := blk_frozen BK130.out 5) | ((with_reducible refine gate_callee (f := 30) rfl ?_); refine goesL_ (some 7) rfl rfl Tryd.func30 (by kernel_rfl) rfl #[.agg #[.int .i64 a0_0, .int .i64 a0_1, .int .i64 a0_2, .int .i64 a0_3, .int .i64 a0_4, .slice A0_5 l0_5.length c0_5]] rfl (by (try simp only [List.map_toArray, List.map_cons, List.map_nil]); first | done | rfl | (simp only [List.length_drop, List.length_take]; rfl)) ?_; (with_reducible refine (passepartoutref04_check.calls k a0_0 a0_1 a0_2 a0_3 a0_4 _ _ l0_5 t132 _ ?side1 ?side2 A7.out).mono ?_); (case side1 => repeat (first | exact (Kd.C_below HR0_5.out HB.out) | (with_reducible refine Kd.C_alloc ?_ _) | (with_reducible refine Kd.C_drewN ?_ _) | (with_reducible refine Kd.C_drew ?_))); (case side2 => exact HC0_5.out); rintro e w12 ⟨rfl, hb⟩; refine ⟨_, rfl, ?_⟩; have n0_ := Aside0.mk (blk_below (g := gb130) (o := .cells #[.int .i64 a0_0, .int .i64 a0_1, .int .i64 a0_2, .int .i64 a0_3, .int .i64 a0_4, .slice A0_5 l0_5.length c0_5] 24 (0, 0)) (by (with_reducible repeat (first | refine blk_drewN ?_ _ | refine blk_drew ?_ | refine blk_alloc ?_ _)); exact BK130.out) hb); have n1_ := Aside0.mk (below_step (by repeat (first | (with_reducible first | exact HB.out | apply below_alloc | apply pw_below_drewN | apply below_drew1 | refine below_set ?_ GE130.out) | exact HB.out)) hb); clear BK130; clear HB; have BK130 := n0_; have HB := n1_; clear n0_ n1_; (try clear hb); (try clear hb2); (try clear hk); (try clear hi)))
  go_ret
  exact ⟨by first | rfl | (simp [errW_none, errW_some] <;> rfl) | (simp [*, errW_none, errW_some] <;> rfl), by repeat (first | (with_reducible first | exact HB.out | apply below_alloc | apply pw_below_drewN | apply below_drew1 | refine below_set ?_ GE130.out) | exact HB.out)⟩

end Go.Proofs.YtdhnfccgojgehaaDoor.QP

namespace Go.Proofs.YtdhnfccgojgehaaDoor
open Go.RowKit YtdhnfccgojgehaaDoorW.PrintWords

theorem of_f0 (x : Fm) : (ofF x).f0 = x.a.k := by cases x; rw [ofF_mk]; rfl
theorem of_f1 (x : Fm) : (ofF x).f1 = x.a.s := by cases x; rw [ofF_mk]; rfl
theorem of_f2 (x : Fm) : (ofF x).f2 = x.a.lo := by cases x; rw [ofF_mk]; rfl
theorem of_f3 (x : Fm) : (ofF x).f3 = x.a.hi := by cases x; rw [ofF_mk]; rfl
theorem of_f4 (x : Fm) : (ofF x).f4 = x.a.st := by cases x; rw [ofF_mk]; rfl
theorem of_f5 (x : Fm) : (ofF x).f5 = x.l.map ofF := by cases x; rw [ofF_mk]; rfl
theorem rparts_f (a : FH) (l : List Fm) : QP.passepartoutref04_parts.f a.k a.s a.lo a.hi a.st (l.map ofF) = some ((partsF (.mk a l)).map ofF) := by
 rw [QP.passepartoutref04_parts.f]
 show _ = some ((if a.k = 2 ∨ a.k = 3 then l else []).map ofF)
 by_cases h2 : a.k = 2
 ·rw [if_pos h2, if_pos (.inl h2)]
 ·rw [if_neg h2]
  by_cases h3 : a.k = 3
  ·rw [if_pos h3, if_pos (.inr h3)]
  ·rw [if_neg h3, if_neg (by omega)]
   rfl
theorem partsF_len (a : FH) (l : List Fm) : (partsF (.mk a l)).length ≤ l.length := by
 show (if a.k = 2 ∨ a.k = 3 then l else []).length ≤ _
 split <;> simp

/-- A number of forms, no more than so many told. -/
theorem cnt_ev (f : Fm) : ∀ m : Nat, m ≤ 100000 → wfF f = true → Ev (fun k => QP.passepartoutref04_Count.f k f.a.k f.a.s f.a.lo f.a.hi f.a.st (f.l.map ofF) (m : Int)) ((cntR m f : Nat) : Int) := by
 induction f using RT.induct with
 | h a l ih =>
 intro m hm hw
 obtain ⟨_, hl, hws⟩ := (wfF_mk _ _).1 hw
 apply Ev.step
 ·intro k
  simp only [QP.passepartoutref04_Count.f]
  rfl
 refine Ev.cb (rparts_f a l) ?_
 rw [cntR_parts]
 have hpl := partsF_len a l
 have hmem : ∀ x ∈ partsF (.mk a l), x ∈ l := fun x hx => partsF_mem hx
 generalize partsF (.mk a l) = P at hpl hmem
 have key : ∀ (d j q : Nat), P.length - j = d → j ≤ P.length → 1 ≤ q → q ≤ m + 1 → Ev (fun k => QP.passepartoutref04_Count.l0 k (m : Int) (q : Int) (P.map ofF) (j : Int)) ((cntL m q (P.drop j) : Nat) : Int) := by
  intro d
  induction d with
  | zero =>
   intro j q hd hj hq1 hq2
   apply Ev.step
   ·intro k
    simp only [QP.passepartoutref04_Count.l0]
    rfl
   refine Ev.in_ (by simp; omega) ?_
   rw [cntL_end (by omega)]
   exact Ev.now _
  | succ d ihd =>
   intro j q hd hj hq1 hq2
   have hlt : j < P.length := by omega
   apply Ev.step
   ·intro k
    simp only [QP.passepartoutref04_Count.l0, rd_ofF P j hlt, of_f0, of_f1, of_f2, of_f3, of_f4, of_f5]
    rfl
   refine Ev.ip (by simp; omega) ?_
   refine Ev.sp (fun hqm => ?_) (fun hqm => ?_)
   ·have hqm' : q ≤ m := by omega
    have hb := cnt_bound P[j] (m - q)
    refine Ev.ip (by omega) ?_
    have h1 := ih P[j] (hmem _ (List.getElem_mem hlt)) (m - q) (by omega) (hws _ (hmem _ (List.getElem_mem hlt)))
    rw [w64 (by omega) (by omega), show (m : Int) - (q : Int) = ((m - q : Nat) : Int) by omega]
    refine Ev.bind h1 ?_
    rw [w64 (by omega) (by omega), w64 (by omega) (by omega), show (q : Int) + ((cntR (m - q) P[j] : Nat) : Int) = ((q + cntR (m - q) P[j] : Nat) : Int) by omega, show (j : Int) + 1 = ((j + 1 : Nat) : Int) by omega]
    refine Ev.eq_ (ihd (j + 1) (q + cntR (m - q) P[j]) (by omega) (by omega) (by omega) (by omega)) ?_
    rw [cntL_drop (k := j) hlt, if_pos hqm']
   ·rw [cntL_end (by omega)]
    exact Ev.now _
 have h0 := key P.length 0 1 (by omega) (by omega) (by omega) (by omega)
 rw [List.drop_zero] at h0
 exact h0

mutual
/-- How deep; no more than so much (and one) is told. -/
def depR : Nat → Fm → Nat
 | m, .mk a l => (if a.k = 2 ∨ a.k = 3 then depL m 0 l else 0) + 1
def depL : Nat → Nat → List Fm → Nat
 | _, b, [] => b
 | 0, b, _ :: _ => b
 | m + 1, b, f :: t => depL (m + 1) (max b (depR m f)) t
end
theorem depR_parts (m : Nat) (f : Fm) : depR m f = depL m 0 (partsF f) + 1 := by
 obtain ⟨a, l⟩ := f
 rw [depR]
 show _ = depL m 0 (if a.k = 2 ∨ a.k = 3 then l else []) + 1
 split
 ·rfl
 ·cases m <;> rw [depL]
theorem depL_end {l : List Fm} {k m b : Nat} (hk : l.length ≤ k ∨ m = 0) : depL m b (l.drop k) = b := by
 rcases hk with hk | rfl
 ·rw [List.drop_of_length_le hk]
  cases m <;> rw [depL]
 ·cases l.drop k <;> rw [depL]
theorem depL_drop {l : List Fm} {k m b : Nat} (hk : k < l.length) : depL (m + 1) b (l.drop k) = depL (m + 1) (max b (depR m l[k])) (l.drop (k + 1)) := by
 rw [List.drop_eq_getElem_cons hk, depL]
theorem dep_bound (f : Fm) : ∀ m, depR m f ≤ m + 1 := by
 induction f using RT.induct with
 | h a l ih =>
 intro m
 rw [depR]
 split
 ·have key : ∀ (t : List Fm), (∀ f ∈ t, ∀ m, depR m f ≤ m + 1) → ∀ b, b ≤ m → depL m b t ≤ m := by
   intro t
   induction t with
   | nil => intro _ b hb; cases m <;> rw [depL] <;> omega
   | cons f t ih2 =>
    intro hf b hb
    cases m with
    | zero => rw [depL]; omega
    | succ m =>
     rw [depL]
     have h1 := hf f (by simp) m
     exact ih2 (fun g hg => hf g (by simp [hg])) _ (by omega)
  have := key l ih 0 (by omega)
  omega
 ·omega
theorem dep_deep (f : Fm) : ∀ n m, n ≤ m → deepB n f = decide (n < depR m f) := by
 induction f using RT.induct with
 | h a l ih =>
 intro n m hnm
 cases n with
 | zero => rw [depR]; simp [deepB]
 | succ n =>
  obtain ⟨m, rfl⟩ : ∃ q, m = q + 1 := ⟨m - 1, by omega⟩
  rw [depR_parts, deepB]
  have key : ∀ (t : List Fm), (∀ f ∈ t, f ∈ l) → ∀ b, (decide (n < b) || t.any (deepB n)) = decide (n < depL (m + 1) b t) := by
   intro t
   induction t with
   | nil => intro _ b; rw [depL]; simp
   | cons f t ih2 =>
    intro hf b
    rw [depL, List.any_cons, ← ih2 (fun g hg => hf g (by simp [hg])), ih f (hf f (by simp)) n m (by omega), Bool.eq_iff_iff]
    simp only [Bool.or_eq_true, decide_eq_true_eq]
    constructor
    ·rintro (h | h | h)
     ·exact .inl (by omega)
     ·exact .inl (by omega)
     ·exact .inr h
    ·rintro (h | h)
     ·rcases Nat.lt_or_ge n b with hb | hb
      ·exact .inl hb
      ·exact .inr (.inl (by omega))
     ·exact .inr (.inr h)
  have h0 := key (partsF (.mk a l)) (fun f hf => partsF_mem hf) 0
  rw [Bool.eq_iff_iff] at h0 ⊢
  simp only [Bool.or_eq_true, decide_eq_true_eq] at h0 ⊢
  constructor
  ·intro h
   have := h0.1 (.inr h)
   omega
  ·intro h
   rcases h0.2 (by omega) with h2 | h2
   ·omega
   ·exact h2

theorem dep_ev (f : Fm) : ∀ m : Nat, m ≤ 100000 → wfF f = true → Ev (fun k => QP.passepartoutref04_Depth.f k f.a.k f.a.s f.a.lo f.a.hi f.a.st (f.l.map ofF) (m : Int)) ((depR m f : Nat) : Int) := by
 induction f using RT.induct with
 | h a l ih =>
 intro m hm hw
 obtain ⟨_, hl, hws⟩ := (wfF_mk _ _).1 hw
 apply Ev.step
 ·intro k
  simp only [QP.passepartoutref04_Depth.f]
  rfl
 refine Ev.cb (rparts_f a l) ?_
 rw [depR_parts]
 have hpl := partsF_len a l
 have hmem : ∀ x ∈ partsF (.mk a l), x ∈ l := fun x hx => partsF_mem hx
 generalize partsF (.mk a l) = P at hpl hmem
 have key : ∀ (d j q : Nat), P.length - j = d → j ≤ P.length → q ≤ m + 1 → Ev (fun k => QP.passepartoutref04_Depth.l0 k (m : Int) (q : Int) (P.map ofF) (j : Int)) ((depL m q (P.drop j) + 1 : Nat) : Int) := by
  intro d
  induction d with
  | zero =>
   intro j q hd hj hq2
   apply Ev.step
   ·intro k
    simp only [QP.passepartoutref04_Depth.l0]
    rfl
   refine Ev.in_ (by simp; omega) ?_
   apply Ev.step
   ·intro k
    simp only [QP.passepartoutref04_Depth.j1]
    rfl
   refine Ev.in_ (by simp) ?_
   rw [depL_end (.inl (by omega)), w64 (by omega) (by omega)]
   exact Ev.is (by simp)
  | succ d ihd =>
   intro j q hd hj hq2
   have hlt : j < P.length := by omega
   apply Ev.step
   ·intro k
    simp only [QP.passepartoutref04_Depth.l0]
    rfl
   refine Ev.ip (by simp; omega) ?_
   apply Ev.step
   ·intro k
    simp only [QP.passepartoutref04_Depth.j1, rd_ofF P j hlt, of_f0, of_f1, of_f2, of_f3, of_f4, of_f5]
    rfl
   cases m with
   | zero =>
    refine Ev.in_ (by simp) ?_
    rw [depL_end (.inr rfl), w64 (by omega) (by omega)]
    exact Ev.is (by simp)
   | succ m =>
    refine Ev.ip (by simp) ?_
    refine Ev.ip (by omega) (Ev.ip (by simp; omega) ?_)
    have h1 := ih P[j] (hmem _ (List.getElem_mem hlt)) m (by omega) (hws _ (hmem _ (List.getElem_mem hlt)))
    have hb := dep_bound P[j] m
    rw [w64 (x := ((m + 1 : Nat) : Int) - 1) (by omega) (by omega), show ((m + 1 : Nat) : Int) - 1 = (m : Int) by omega]
    refine Ev.bind h1 ?_
    rw [depL_drop hlt, w64 (x := (j : Int) + 1) (by omega) (by omega), show (j : Int) + 1 = ((j + 1 : Nat) : Int) by omega]
    refine Ev.sp (fun hx => ?_) (fun hx => ?_)
    ·refine Ev.eq_ (ihd (j + 1) (depR m P[j]) (by omega) (by omega) (by omega)) ?_
     rw [show max q (depR m P[j]) = depR m P[j] by omega]
    ·refine Ev.eq_ (ihd (j + 1) q (by omega) (by omega) (by omega)) ?_
     rw [show max q (depR m P[j]) = q by omega]
 have h0 := key P.length 0 0 (by omega) (by omega) (by omega)
 rw [List.drop_zero] at h0
 exact h0

theorem bounds_ne (lo hi M : Int) : boundsR lo hi M ≠ 0 ↔ lo < 0 ∨ hi < lo ∨ M < hi := by
 unfold boundsR
 split
 ·rename_i h
  simp [h]
 ·rename_i h
  simp only [ne_eq, not_true_eq_false, false_iff]
  exact h
theorem to_mk (f : Fm) : toF ⟨f.a.k, f.a.s, f.a.lo, f.a.hi, f.a.st, f.l.map ofF⟩ = f := by
 obtain ⟨a, l⟩ := f
 rw [toF_mk, map_to_ofF]
 rfl
theorem own_f (f : Fm) (hw : wfF f = true) : QP.passepartoutref04_own.f f.a.k f.a.s f.a.lo f.a.hi f.a.st (f.l.map ofF) = some (ownN f.a.k f.a.s f.a.lo f.a.hi f.a.st f.l.length) := by
 rw [QP.passepartoutref04_own.f, to_mk, if_pos hw]
 obtain ⟨a, l⟩ := f
 rfl
theorem least_ev (f : Fm) : wfF f = true → Ev (fun k => QP.passepartoutref04_Least.f k f.a.k f.a.s f.a.lo f.a.hi f.a.st (f.l.map ofF)) (spanR FH.lo f) := by
 induction f using RT.induct with
 | h a l ih =>
 intro hw
 obtain ⟨_, hl, hws⟩ := (wfF_mk _ _).1 hw
 rw [spanR_mk]
 simp only [RT.a, RT.l]
 apply Ev.step
 ·intro k
  simp only [QP.passepartoutref04_Least.f]
  rfl
 by_cases k0 : a.k = 0
 ·rw [if_pos k0]
  exact Ev.ip k0 (Ev.now _)
 rw [if_neg k0]
 refine Ev.in_ k0 ?_
 by_cases k1 : a.k = 1
 ·rw [if_pos (.inl k1)]
  refine Ev.ip k1 ?_
  apply Ev.step
  ·intro k
   simp only [QP.passepartoutref04_Least.j0]
   rfl
  exact Ev.ip (by simp [k1]) (Ev.now _)
 refine Ev.in_ k1 ?_
 apply Ev.step
 ·intro k
  simp only [QP.passepartoutref04_Least.j0]
  rfl
 by_cases k2 : a.k = 2
 ·rw [if_pos (.inr k2)]
  exact Ev.ip (by simp [k2]) (Ev.now _)
 rw [if_neg (by omega)]
 refine Ev.in_ (by simp [k2]) ?_
 by_cases k4 : a.k = 4
 ·rw [if_pos k4]
  exact Ev.ip k4 (Ev.now _)
 rw [if_neg k4]
 refine Ev.in_ k4 ?_
 by_cases k5 : a.k = 5
 ·rw [if_pos k5]
  exact Ev.ip k5 (Ev.now _)
 rw [if_neg k5]
 refine Ev.in_ k5 ?_
 have key : ∀ (d j : Nat) (q : Int), l.length - j = d → j ≤ l.length → Ev (fun k => QP.passepartoutref04_Least.l0 k q (j : Int) a.k a.s a.lo a.hi a.st (l.map ofF)) (spanL FH.lo q (l.drop j)) := by
  intro d
  induction d with
  | zero =>
   intro j q hd hj
   apply Ev.step
   ·intro k
    simp only [QP.passepartoutref04_Least.l0]
    rfl
   refine Ev.in_ (by simp; omega) ?_
   rw [List.drop_of_length_le (by omega), spanL]
   exact Ev.now _
  | succ d ihd =>
   intro j q hd hj
   have hlt : j < l.length := by omega
   apply Ev.step
   ·intro k
    simp only [QP.passepartoutref04_Least.l0, rd_ofF l j hlt, of_f0, of_f1, of_f2, of_f3, of_f4, of_f5]
    rfl
   refine Ev.ip (by simp; omega) (Ev.ip (by omega) ?_)
   refine Ev.bind (ih l[j] (List.getElem_mem hlt) (hws _ (List.getElem_mem hlt))) ?_
   rw [w64 (x := (j : Int) + 1) (by omega) (by omega), show (j : Int) + 1 = ((j + 1 : Nat) : Int) by omega]
   refine Ev.eq_ (ihd (j + 1) _ (by omega) (by omega)) ?_
   rw [List.drop_eq_getElem_cons hlt, spanL]
 have h0 := key l.length 0 0 (by omega) (by omega)
 rw [List.drop_zero] at h0
 exact h0

theorem open_ev (f : Fm) : wfF f = true → Ev (fun k => QP.passepartoutref04_Open.f k f.a.k f.a.s f.a.lo f.a.hi f.a.st (f.l.map ofF)) (openR f) := by
 induction f using RT.induct with
 | h a l ih =>
 intro hw
 obtain ⟨_, hl, hws⟩ := (wfF_mk _ _).1 hw
 rw [openR_mk]
 simp only [RT.a, RT.l]
 apply Ev.step
 ·intro k
  simp only [QP.passepartoutref04_Open.f]
  rfl
 by_cases k4 : a.k = 4
 ·rw [if_neg (by omega), decide_eq_true k4]
  exact Ev.ip k4 (Ev.now _)
 refine Ev.in_ k4 ?_
 by_cases k3 : a.k = 3
 ·rw [if_pos k3]
  refine Ev.ip k3 ?_
  by_cases h0 : l.length = 0
  ·obtain rfl : l = [] := List.eq_nil_of_length_eq_zero h0
   exact Ev.ip (by simp) (Ev.now _)
  ·obtain ⟨n, hn⟩ : ∃ n, l.length = n + 1 := ⟨l.length - 1, by omega⟩
   rw [openL_last l n hn]
   refine Ev.in_ (by simp; intro h; simp [h] at h0) ?_
   rw [w64 (x := ((l.map ofF).length : Int) - 1) (by rw [List.length_map]; omega) (by rw [List.length_map]; omega), show ((l.map ofF).length : Int) - 1 = (n : Int) by rw [List.length_map]; omega]
   refine Ev.ip (by omega) (Ev.ip (by rw [List.length_map]; omega) ?_)
   simp only [rd_ofF l n (by omega), of_f0, of_f1, of_f2, of_f3, of_f4, of_f5]
   have hm : l[n]'(by omega) ∈ l := List.getElem_mem _
   exact Ev.bind (ih _ hm (hws _ hm)) (Ev.now _)
 ·rw [if_neg k3, decide_eq_false k4]
  exact Ev.in_ k3 (Ev.now _)

theorem check_ev (f : Fm) : wfF f = true → Ev (fun k => QP.passepartoutref04_check.f k f.a.k f.a.s f.a.lo f.a.hi f.a.st (f.l.map ofF)) (checkR f) := by
 induction f using RT.induct with
 | h a l ih =>
 intro hw
 obtain ⟨_, hl, hws⟩ := (wfF_mk _ _).1 hw
 rw [checkR_parts]
 simp only [RT.a, RT.l]
 apply Ev.step
 ·intro k
  simp only [QP.passepartoutref04_check.f]
  rfl
 refine Ev.cb (own_f (.mk a l) hw) ?_
 show Ev _ (if ownN a.k a.s a.lo a.hi a.st l.length ≠ 0 then ownN a.k a.s a.lo a.hi a.st l.length else restR a.k (partsF (.mk a l)))
 by_cases h0 : ownN a.k a.s a.lo a.hi a.st l.length = 0
 rotate_left
 ·rw [if_pos h0]
  exact Ev.in_ h0 (Ev.now _)
 rw [if_neg (by omega)]
 refine Ev.ip h0 (Ev.cb (rparts_f a l) ?_)
 have hpl := partsF_len a l
 have hmem : ∀ x ∈ partsF (.mk a l), x ∈ l := fun x hx => partsF_mem hx
 have hone : a.k = 2 → (partsF (.mk a l)).length = 1 := by
  intro k2
  show (if a.k = 2 ∨ a.k = 3 then l else []).length = 1
  rw [if_pos (.inl k2)]
  by_cases h1 : l.length = 1
  ·exact h1
  ·exfalso
   rw [ownN, if_neg (by omega), if_pos (.inl k2)] at h0
   split at h0
   ·omega
   ·split at h0
    ·omega
    ·rw [if_pos ⟨k2, h1⟩] at h0
     omega
 generalize partsF (.mk a l) = P at hpl hmem hone
 have hP : ∀ j (h : j < P.length), wfF P[j] = true := fun j h => hws _ (hmem _ (List.getElem_mem h))
 -- the second loop
 let opn : Nat → List Fm → Bool := fun j t => (t.zipIdx j).any (fun x => openR x.1 && (decide (a.k = 2) || decide (x.2 + 1 < P.length)))
 have hopn : ∀ j (h : j < P.length), opn j (P.drop j) = ((openR P[j] && (decide (a.k = 2) || decide (j + 1 < P.length))) || opn (j + 1) (P.drop (j + 1))) := by
  intro j h
  simp only [opn]
  rw [List.drop_eq_getElem_cons h, List.zipIdx_cons, List.any_cons]
 have key2 : ∀ (d j : Nat), P.length - j = d → j ≤ P.length → Ev (fun k => QP.passepartoutref04_check.l1 k (P.map ofF) (j : Int) a.k a.s a.lo a.hi a.st (l.map ofF)) (if opn j (P.drop j) then 15 else if a.k = 2 ∧ ∃ h : 0 < P.length, leastR (P[0]'h) = 0 then 15 else 0) := by
  intro d
  induction d with
  | zero =>
   intro j hd hj
   apply Ev.step
   ·intro k
    simp only [QP.passepartoutref04_check.l1]
    rfl
   refine Ev.in_ (by simp; omega) ?_
   rw [List.drop_of_length_le (by omega), if_neg (by simp [opn])]
   by_cases k2 : a.k = 2
   ·have h1 := hone k2
    have hlt : 0 < P.length := by omega
    refine Ev.ip k2 (Ev.ip (by simp; omega) ?_)
    have hrd := rd_ofF P 0 hlt
    simp only [Int.natCast_zero] at hrd
    simp only [hrd, of_f0, of_f1, of_f2, of_f3, of_f4, of_f5]
    refine Ev.bind (least_ev P[0] (hP 0 hlt)) ?_
    show Ev _ _
    by_cases hz : spanR FH.lo P[0] = 0
    ·exact Ev.eq_ (Ev.ip hz (Ev.now _)) (if_pos ⟨k2, hlt, hz⟩).symm
    ·exact Ev.eq_ (Ev.in_ hz (Ev.now _)) (if_neg (by rintro ⟨_, _, h⟩; exact hz h)).symm
   ·rw [if_neg (by rintro ⟨h, _⟩; exact k2 h)]
    exact Ev.in_ k2 (Ev.now _)
  | succ d ihd =>
   intro j hd hj
   have hlt : j < P.length := by omega
   apply Ev.step
   ·intro k
    simp only [QP.passepartoutref04_check.l1, rd_ofF P j hlt, of_f0, of_f1, of_f2, of_f3, of_f4, of_f5]
    rfl
   refine Ev.ip (by simp; omega) (Ev.ip (by omega) ?_)
   refine Ev.bind (open_ev P[j] (hP j hlt)) ?_
   rw [hopn j hlt, w64 (x := (j : Int) + 1) (by omega) (by omega), show (j : Int) + 1 = ((j + 1 : Nat) : Int) by omega]
   have hn := ihd (j + 1) (by omega) (by omega)
   cases ho : openR P[j]
   ·refine Ev.in_ (by simp) ?_
    simpa using hn
   ·refine Ev.ip rfl ?_
    by_cases k2 : a.k = 2
    ·rw [if_pos (by simp [k2])]
     exact Ev.ip k2 (Ev.now _)
    ·refine Ev.in_ k2 ?_
     by_cases hj1 : j + 1 < P.length
     ·rw [if_pos (by simp [hj1])]
      exact Ev.ip (by simp; omega) (Ev.now _)
     ·refine Ev.in_ (by simp; omega) ?_
      simpa [k2, hj1] using hn
 have hbad : (if opn 0 P then (15 : Int) else if a.k = 2 ∧ ∃ h : 0 < P.length, leastR (P[0]'h) = 0 then 15 else 0) = if badF a.k P.length 0 P then 15 else 0 := by
  have hb : ∀ (t : List Fm) (j : Nat), badF a.k P.length j t = ((t.zipIdx j).any (fun x => openR x.1 && (decide (a.k = 2) || decide (x.2 + 1 < P.length))) || (decide (a.k = 2) && t.any (fun x => decide (leastR x = 0)))) := by
   intro t
   induction t with
   | nil => intro j; simp [badF]
   | cons f t ih2 =>
    intro j
    rw [badF, ih2, badI, List.zipIdx_cons, List.any_cons, List.any_cons]
    cases openR f <;> cases decide (a.k = 2) <;> cases decide (j + 1 < P.length) <;> cases decide (leastR f = 0) <;> simp
  rw [hb P 0]
  show (if opn 0 P then (15 : Int) else _) = if (opn 0 P || _) = true then 15 else 0
  cases opn 0 P
  ·by_cases k2 : a.k = 2
   ·have h1 := hone k2
    obtain ⟨x, rfl⟩ : ∃ x, P = [x] := List.length_eq_one_iff.1 h1
    simp [k2]
   ·simp [k2]
  ·simp
 have key : ∀ (d j : Nat), P.length - j = d → j ≤ P.length → Ev (fun k => QP.passepartoutref04_check.l0 k (P.map ofF) (j : Int) a.k a.s a.lo a.hi a.st (l.map ofF)) (if checkL (P.drop j) ≠ 0 then checkL (P.drop j) else if badF a.k P.length 0 P then 15 else 0) := by
  intro d
  induction d with
  | zero =>
   intro j hd hj
   apply Ev.step
   ·intro k
    simp only [QP.passepartoutref04_check.l0]
    rfl
   refine Ev.in_ (by simp; omega) ?_
   rw [List.drop_of_length_le (by omega), checkL, if_neg (by omega)]
   have h2 := key2 P.length 0 (by omega) (by omega)
   rw [List.drop_zero, hbad] at h2
   exact h2
  | succ d ihd =>
   intro j hd hj
   have hlt : j < P.length := by omega
   apply Ev.step
   ·intro k
    simp only [QP.passepartoutref04_check.l0, rd_ofF P j hlt, of_f0, of_f1, of_f2, of_f3, of_f4, of_f5]
    rfl
   refine Ev.ip (by simp; omega) (Ev.ip (by omega) ?_)
   refine Ev.bind (ih P[j] (hmem _ (List.getElem_mem hlt)) (hP j hlt)) ?_
   rw [w64 (x := (j : Int) + 1) (by omega) (by omega), show (j : Int) + 1 = ((j + 1 : Nat) : Int) by omega, checkL_drop hlt]
   by_cases hc : checkR P[j] = 0
   ·refine Ev.ip hc ?_
    rw [if_neg (show ¬ checkR P[j] ≠ 0 by omega)]
    exact ihd (j + 1) (by omega) (by omega)
   ·refine Ev.in_ hc ?_
    rw [if_pos hc, if_pos hc]
    exact Ev.now _
 have h0 := key P.length 0 (by omega) (by omega)
 rw [List.drop_zero] at h0
 exact h0

/-- The document's word on a form. -/
theorem Check_ev (f : Fm) (hw : wfF f = true) : Ev (fun k => QP.passepartoutref04_Check.f k f.a.k f.a.s f.a.lo f.a.hi f.a.st (f.l.map ofF)) (if deepB 8 f then 14 else checkR f) := by
 have hd := dep_ev f 9 (by omega) hw
 rw [dep_deep f 8 9 (by omega)]
 simp only [QP.passepartoutref04_Check.f]
 refine Ev.bind hd ?_
 by_cases h : 8 < depR 9 f
 ·rw [if_pos (by simpa using h)]
  exact Ev.ip (by omega) (Ev.now _)
 ·rw [if_neg (by simpa using h)]
  exact Ev.in_ (by omega) (Ev.bind (check_ev f hw) (Ev.now _))
end Go.Proofs.YtdhnfccgojgehaaDoor

namespace Go.Proofs.YtdhnfccgojgehaaDoor
open Go.RowKit YtdhnfccgojgehaaDoorW.PrintWords

end Go.Proofs.YtdhnfccgojgehaaDoor

namespace Go.Proofs.YtdhnfccgojgehaaDoor
open Go.RowKit Go.Maps

/-- Which field is a kind's own. -/
def fld (k : Int) : Int := if k = 1 ∨ k = 4 ∨ k = 5 then 1 else if k = 2 ∨ k = 3 then 2 else 0
def fieldsD : DataW Unit := ((((((.map [] : DataW Unit).put (.int .i64 0) (.lit (.int .i64 0))).put (.int .i64 1) (.lit (.int .i64 1))).put (.int .i64 4) (.lit (.int .i64 1))).put (.int .i64 5) (.lit (.int .i64 1))).put (.int .i64 2) (.lit (.int .i64 2))).put (.int .i64 3) (.lit (.int .i64 2))
/-- Is only a kind's field filled? -/
def aloneB (k n : Int) (b l : Nat) : Bool := (decide (fld k = 0) || decide (n = 0)) && ((decide (fld k = 1) || decide (b = 0)) && (decide (fld k = 2) || decide (l = 0)))
end Go.Proofs.YtdhnfccgojgehaaDoor

namespace Go.Proofs.YtdhnfccgojgehaaDoor
open Go.RowKit

/-- A value's number and bytes. -/
structure VH where
 n : Int
 b : List UInt8
deriving DecidableEq
def u64B (x : Int) : Prop := 0 ≤ x ∧ x < 18446744073709551616
def VHd : Head VH := fun w ok a hd => ∃ v, hd = [.int .u64 a.n, v] ∧ u64B a.n ∧ BR w ok v a.b ∧ a.b.length ≤ 140737488355328
theorem VHd_kp : HeadKp VHd :=
 ⟨fun ⟨v, e, h1, h2, h3⟩ hk hd => ⟨v, e, h1, h2.kp hk hd, h3⟩, fun ⟨v, e, h1, h2, h3⟩ hm => ⟨v, e, h1, h2.mono hm, h3⟩⟩
abbrev Vt := RT VH
/-- A slice value that reads as these values. -/
def VsR (w : World) (ok : Nat → Prop) (v : Value) (l : List Vt) : Prop := ∃ A c, v = .slice A l.length c ∧ l.length ≤ c ∧ l.length ≤ 140737488355328 ∧ TL VHd 3 w ok l A
/-- A value that reads as a value. -/
def VtR (w : World) (ok : Nat → Prop) (v : Value) (x : Vt) : Prop :=
 ∃ bv sv, v = .agg #[.int .u64 x.a.n, bv, sv] ∧ u64B x.a.n ∧ BR w ok bv x.a.b ∧ x.a.b.length ≤ 140737488355328 ∧ VsR w ok sv x.l
section
variable {w w' : World} {ok ok' S : Nat → Prop} {v : Value} {l : List Vt} {x : Vt}
theorem VsR.kp (h : VsR w ok v l) (hk : Kp S w w') (hd : ∀ i, ok i → ¬ S i) : VsR w' ok v l := by
 obtain ⟨A, c, e, h1, h2, h3⟩ := h
 exact ⟨A, c, e, h1, h2, h3.kp_ VHd_kp hk hd (fun _ h => h)⟩
theorem VsR.mono (h : VsR w ok v l) (hm : ∀ i, ok i → ok' i) : VsR w ok' v l := by
 obtain ⟨A, c, e, h1, h2, h3⟩ := h
 exact ⟨A, c, e, h1, h2, h3.kp_ VHd_kp (Kp.refl (fun _ => False) w) (fun _ _ h => h) hm⟩
theorem VtR.kp (h : VtR w ok v x) (hk : Kp S w w') (hd : ∀ i, ok i → ¬ S i) : VtR w' ok v x := by
 obtain ⟨bv, sv, e, h1, h2, h3, h4⟩ := h
 exact ⟨bv, sv, e, h1, h2.kp hk hd, h3, h4.kp hk hd⟩
theorem VtR.mono (h : VtR w ok v x) (hm : ∀ i, ok i → ok' i) : VtR w ok' v x := by
 obtain ⟨bv, sv, e, h1, h2, h3, h4⟩ := h
 exact ⟨bv, sv, e, h1, h2.mono hm, h3, h4.mono hm⟩
theorem VsR.nil : VsR w ok (.slice none 0 0) [] := ⟨none, 0, rfl, Nat.le_refl _, by simp, fun h => by simp at h⟩
theorem VtR.of_tr {cs : List Value} (h : TR VHd 3 w ok x cs) : VtR w ok (.agg cs.toArray) x ∧ cs.length = 3 := by
 obtain ⟨hd, A, c, e, hl, ⟨bv, hh, ho, hb, hbl⟩, h1, h2, h3⟩ := (TR_def _ _ _ _ _ _).1 h
 subst hh
 subst e
 exact ⟨⟨bv, _, rfl, ho, hb, hbl, A, c, rfl, h1, h2, h3⟩, by simp⟩
theorem VtR.tr (h : VtR w ok v x) : ∃ bv sv, v = .agg #[.int .u64 x.a.n, bv, sv] ∧ TR VHd 3 w ok x [.int .u64 x.a.n, bv, sv] := by
 obtain ⟨bv, sv, e, h1, h2, h3, A, c, e2, h4, h5, h6⟩ := h
 subst e2
 exact ⟨_, _, e, (TR_def _ _ _ _ _ _).2 ⟨[.int .u64 x.a.n, bv], A, c, rfl, rfl, ⟨bv, rfl, h1, h2, h3⟩, h4, h5, h6⟩⟩
/-- The parts of a value. -/
theorem VtR.parts {n : Int} {B : List UInt8} {ps : List Vt} (h : VtR w ok v (.mk ⟨n, B⟩ ps)) :
  ∃ A1 c1 A2 c2, v = .agg #[.int .u64 n, .slice A1 B.length c1, .slice A2 ps.length c2] ∧ u64B n ∧ B.length ≤ c1 ∧ B.length ≤ 140737488355328 ∧ BR w ok (.slice A1 B.length c1) B ∧ ps.length ≤ c2 ∧ ps.length ≤ 140737488355328 ∧ VsR w ok (.slice A2 ps.length c2) ps := by
 obtain ⟨bv, sv, rfl, h1, h2, h3, A2, c2, rfl, h4, h5, h6⟩ := h
 obtain ⟨A1, c1, e, h7, h8⟩ := id h2
 have e' : bv = .slice A1 B.length c1 := e
 subst e'
 exact ⟨A1, c1, A2, c2, rfl, h1, h7, h3, h2, h4, h5, A2, c2, rfl, h4, h5, h6⟩
/-- An element: its value, and its cells. -/
theorem VsR.at_ {A : Option Addr} {n c : Nat} (h : VsR w ok (.slice A n c) l) {i : Nat} (hi : i < l.length) :
  ∃ b off A1 c1 A2 c2, A = some ⟨b, off, none⟩ ∧ ok b ∧ VtR w ok (.agg #[.int .u64 (l[i]'hi).a.n, .slice A1 (l[i]'hi).a.b.length c1, .slice A2 (l[i]'hi).l.length c2]) (l[i]'hi) ∧
   w.cell? ⟨b, off + i * 3, none⟩ = some (.int .u64 (l[i]'hi).a.n) ∧ w.cell? ⟨b, off + i * 3 + 1, none⟩ = some (.slice A1 (l[i]'hi).a.b.length c1) ∧ w.cell? ⟨b, off + i * 3 + 2, none⟩ = some (.slice A2 (l[i]'hi).l.length c2) := by
 obtain ⟨A', c', e, _, _, h3⟩ := h
 injection e with e1 e2 e3
 subst e1
 obtain ⟨b, off, cs, hA, hb, ht, hc⟩ := h3.at_ hi
 have h1 := (VtR.of_tr ht).1
 obtain ⟨hd, A2, c2, e, hl, ⟨bv, hh, ho, hbr, hbl⟩, _, _, _⟩ := (TR_def _ _ _ _ _ _).1 ht
 subst hh
 subst e
 obtain ⟨A1, c1, e, _, _⟩ := hbr
 subst e
 exact ⟨b, off, _, _, _, _, hA, hb, h1, hc 0 _ rfl, hc 1 _ rfl, hc 2 _ rfl⟩
theorem VsR.len {A : Option Addr} {n c : Nat} (h : VsR w ok (.slice A n c) l) : n = l.length ∧ n ≤ c ∧ n ≤ 140737488355328 := by
 obtain ⟨A', c', e, h1, h2, _⟩ := h
 injection e with _ e2 e3
 omega
end
mutual
/-- Are two values the same? -/
def sameV : Vt → Vt → Bool
 | .mk a l, .mk b m => decide (a.n = b.n) && (decide (a.b = b.b) && sameVs l m)
def sameVs : List Vt → List Vt → Bool
 | [], [] => true
 | x :: l, y :: m => sameV x y && sameVs l m
 | _, _ => false
end
theorem sameV_mk (a b : VH) (l m : List Vt) : sameV (.mk a l) (.mk b m) = (decide (a.n = b.n) && (decide (a.b = b.b) && sameVs l m)) := by rw [sameV]
theorem sameVs_len {l m : List Vt} (h : l.length ≠ m.length) : sameVs l m = false := by
 induction l generalizing m with
 | nil => cases m <;> simp_all [sameVs]
 | cons f t ih =>
  cases m with
  | nil => simp [sameVs]
  | cons g u => rw [sameVs, ih (by simpa using h), Bool.and_false]
theorem sameVs_drop {l m : List Vt} {k : Nat} (h1 : k < l.length) (h2 : k < m.length) : sameVs (l.drop k) (m.drop k) = (sameV l[k] m[k] && sameVs (l.drop (k + 1)) (m.drop (k + 1))) := by
 rw [List.drop_eq_getElem_cons h1, List.drop_eq_getElem_cons h2, sameVs]
theorem sameVs_end {l m : List Vt} {k : Nat} (h1 : l.length ≤ k) (h2 : m.length ≤ k) : sameVs (l.drop k) (m.drop k) = true := by
 rw [List.drop_of_length_le h1, List.drop_of_length_le h2, sameVs]
theorem sameV_iff (x : Vt) : ∀ y, sameV x y = true ↔ x = y := by
 induction x using RT.induct with
 | h a l ih =>
 intro y
 obtain ⟨b, m⟩ := y
 have key : ∀ (t u : List Vt), (∀ f ∈ t, ∀ g, sameV f g = true ↔ f = g) → (sameVs t u = true ↔ t = u) := by
  intro t
  induction t with
  | nil => intro u _; cases u <;> simp [sameVs]
  | cons f t ih2 =>
   intro u h
   cases u with
   | nil => simp [sameVs]
   | cons g u => rw [sameVs, Bool.and_eq_true, h f (by simp), ih2 u (fun x hx => h x (by simp [hx]))]; simp
 rw [sameV_mk]
 simp only [Bool.and_eq_true, decide_eq_true_eq, key l m ih, RT.mk.injEq]
 constructor
 ·rintro ⟨h1, h2, h3⟩
  refine ⟨?_, h3⟩
  cases a; cases b
  simp_all
 ·rintro ⟨h1, h2⟩
  subst h1
  exact ⟨rfl, rfl, h2⟩
theorem sameV_refl (x : Vt) : sameV x x = true := (sameV_iff x x).2 rfl
end Go.Proofs.YtdhnfccgojgehaaDoor

namespace Go.Proofs.YtdhnfccgojgehaaDoor
open Go.RowKit

/-- May a length be? -/
def mayR (n lo hi st : Int) : Int := if n < lo then 5 else if hi < n then 5 else if Int.tmod n st = 0 then 0 else 5
def nilF : Fm := .mk ⟨0, 0, 0, 0, 0⟩ []
mutual
/-- The size of a value of a right form, or why it is none. -/
def fitR : Fm → Vt → Int × Int
 | f, .mk a l =>
  if aloneB f.a.k a.n a.b.length l.length = false then (0, 15)
  else if f.a.k = 0 then (if f.a.s < 8 ∧ (2 : Int) ^ (8 * f.a.s.toNat) ≤ a.n then (0, 3) else (f.a.s, 0))
  else if f.a.k = 1 then (wrap64 (f.a.s + (a.b.length : Int)), mayR a.b.length f.a.lo f.a.hi f.a.st)
  else if f.a.k = 4 then ((a.b.length : Int), mayR a.b.length f.a.lo f.a.hi 1)
  else if f.a.k = 5 then (f.a.lo, mayR a.b.length f.a.lo f.a.lo 1)
  else if f.a.k = 3 ∧ l.length ≠ f.l.length then (0, 15)
  else fitL f 0 0 l
def fitL : Fm → Int → Nat → List Vt → Int × Int
 | f, q, _, [] => if f.a.k = 3 then (q, 0) else (wrap64 (f.a.s + q), mayR q f.a.lo f.a.hi f.a.st)
 | f, q, j, x :: t =>
  if (fitR (f.l.getD (j % f.l.length) nilF) x).2 = 0 then fitL f (wrap64 (q + (fitR (f.l.getD (j % f.l.length) nilF) x).1)) (j + 1) t
  else (0, (fitR (f.l.getD (j % f.l.length) nilF) x).2)
end
theorem fitR_mk (h : FH) (P : List Fm) (a : VH) (l : List Vt) : fitR (.mk h P) (.mk a l) =
  if aloneB h.k a.n a.b.length l.length = false then (0, 15)
  else if h.k = 0 then (if h.s < 8 ∧ (2 : Int) ^ (8 * h.s.toNat) ≤ a.n then (0, 3) else (h.s, 0))
  else if h.k = 1 then (wrap64 (h.s + (a.b.length : Int)), mayR a.b.length h.lo h.hi h.st)
  else if h.k = 4 then ((a.b.length : Int), mayR a.b.length h.lo h.hi 1)
  else if h.k = 5 then (h.lo, mayR a.b.length h.lo h.lo 1)
  else if h.k = 3 ∧ l.length ≠ P.length then (0, 15)
  else fitL (.mk h P) 0 0 l := by
 rw [fitR]
 rfl
theorem fitL_nil (h : FH) (P : List Fm) (q : Int) (j : Nat) : fitL (.mk h P) q j [] = if h.k = 3 then (q, 0) else (wrap64 (h.s + q), mayR q h.lo h.hi h.st) := by
 rw [fitL]
 rfl
theorem fitL_drop (h : FH) (P : List Fm) (q : Int) (l : List Vt) (j : Nat) (hj : j < l.length) : fitL (.mk h P) q j (l.drop j) =
  if (fitR (P.getD (j % P.length) nilF) l[j]).2 = 0 then fitL (.mk h P) (wrap64 (q + (fitR (P.getD (j % P.length) nilF) l[j]).1)) (j + 1) (l.drop (j + 1))
  else (0, (fitR (P.getD (j % P.length) nilF) l[j]).2) := by
 rw [List.drop_eq_getElem_cons hj, fitL]
 rfl
/-- The size, the error, of any form. -/
def sizeR (f : Fm) (x : Vt) : Int × Int :=
 if (if deepB 8 f then 14 else checkR f) = 0 then (if (fitR f x).2 = 0 then ((fitR f x).1, 0) else (0, (fitR f x).2)) else (0, if deepB 8 f then 14 else checkR f)
end Go.Proofs.YtdhnfccgojgehaaDoor

namespace Go.Proofs.YtdhnfccgojgehaaDoor.QP
open Go.RowKit Go.Proofs.YtdhnfccgojgehaaDoorW.PrintWords Go.Proofs.YtdhnfccgojgehaaDoorW.PrintLast Go.Proofs.YtdhnfccgojgehaaDoorW.PrintMore
attribute [local go_sem] max2_int min2_int max_two min_two max_three min_three max_four min_four   -- for this text's walks alone
set_option linter.unusedVariables false
set_option linter.unusedSimpArgs false

/-! ### layout_Check: function 39 -/
def layout_Check.f (a0_0 : Int) (a0_1 : Int) (a0_2 : Int) (a0_3 : Int) (a0_4 : Int) (l0_5 : List (S24)) : Option (Int) := if wfF (toF ⟨a0_0, a0_1, a0_2, a0_3, a0_4, l0_5⟩) = true then some (if deepB 8 (toF ⟨a0_0, a0_1, a0_2, a0_3, a0_4, l0_5⟩) then 14 else checkR (toF ⟨a0_0, a0_1, a0_2, a0_3, a0_4, l0_5⟩)) else none
set_option maxHeartbeats 8000000 in
set_option maxRecDepth 100000 in
theorem layout_Check.calls (a0_0 : Int) (a0_1 : Int) (a0_2 : Int) (a0_3 : Int) (a0_4 : Int) (A0_5 : Option Addr) (c0_5 : Nat) (l0_5 : List (S24)) (r : Int) (w : World) (hr0_5 : Kd.C k24 w A0_5 l0_5.length l0_5) (hc0_5 : l0_5.length ≤ c0_5) (h : layout_Check.f a0_0 a0_1 a0_2 a0_3 a0_4 l0_5 = some r) :
  Calls Tryd.prog 39 #[.agg #[.int .i64 a0_0, .int .i64 a0_1, .int .i64 a0_2, .int .i64 a0_3, .int .i64 a0_4, .slice A0_5 l0_5.length c0_5]] w fun e w' => e = .returned (.int .i64 r) ∧ Below w.heap.size w w' := by
 unfold layout_Check.f at h
 split at h
 ·rename_i hw
  injection h with h
  subst h
  exact (check_any (fun x => x < w.heap.size) (toF ⟨a0_0, a0_1, a0_2, a0_3, a0_4, l0_5⟩) _ w (fun _ h => h) (c_FmR hr0_5 hc0_5 hw)).mono fun e w' h => ⟨h.1, h.2.below⟩
 ·cases h

end Go.Proofs.YtdhnfccgojgehaaDoor.QP

namespace Go.Proofs.YtdhnfccgojgehaaDoor.QP
open Go.RowKit Go.Proofs.YtdhnfccgojgehaaDoorW.PrintWords Go.Proofs.YtdhnfccgojgehaaDoorW.PrintLast Go.Proofs.YtdhnfccgojgehaaDoorW.PrintMore
attribute [local go_sem] max2_int min2_int max_two min_two max_three min_three max_four min_four   -- for this text's walks alone
set_option linter.unusedVariables false
set_option linter.unusedSimpArgs false

/-! ### layout_Open: function 70 -/
def layout_Open.f (a0_0 : Int) (a0_1 : Int) (a0_2 : Int) (a0_3 : Int) (a0_4 : Int) (l0_5 : List (S24)) : Option (Bool) := if wfF (toF ⟨a0_0, a0_1, a0_2, a0_3, a0_4, l0_5⟩) = true then some (openR (toF ⟨a0_0, a0_1, a0_2, a0_3, a0_4, l0_5⟩)) else none
set_option maxHeartbeats 8000000 in
set_option maxRecDepth 100000 in
theorem layout_Open.calls (a0_0 : Int) (a0_1 : Int) (a0_2 : Int) (a0_3 : Int) (a0_4 : Int) (A0_5 : Option Addr) (c0_5 : Nat) (l0_5 : List (S24)) (r : Bool) (w : World) (hr0_5 : Kd.C k24 w A0_5 l0_5.length l0_5) (hc0_5 : l0_5.length ≤ c0_5) (h : layout_Open.f a0_0 a0_1 a0_2 a0_3 a0_4 l0_5 = some r) :
  Calls Tryd.prog 70 #[.agg #[.int .i64 a0_0, .int .i64 a0_1, .int .i64 a0_2, .int .i64 a0_3, .int .i64 a0_4, .slice A0_5 l0_5.length c0_5]] w fun e w' => e = .returned (.bool r) ∧ Below w.heap.size w w' := by
 unfold layout_Open.f at h
 split at h
 ·rename_i hw
  injection h with h
  subst h
  exact (open_any (fun x => x < w.heap.size) _ (toF ⟨a0_0, a0_1, a0_2, a0_3, a0_4, l0_5⟩) w (fun _ h => h) (c_FmR hr0_5 hc0_5 hw)).mono fun e w' h => ⟨h.1, h.2.below⟩
 ·cases h

end Go.Proofs.YtdhnfccgojgehaaDoor.QP

namespace Go.Proofs.YtdhnfccgojgehaaDoor.QP
open Go.RowKit Go.Proofs.YtdhnfccgojgehaaDoorW.PrintWords Go.Proofs.YtdhnfccgojgehaaDoorW.PrintLast Go.Proofs.YtdhnfccgojgehaaDoorW.PrintMore
attribute [local go_sem] max2_int min2_int max_two min_two max_three min_three max_four min_four   -- for this text's walks alone
set_option linter.unusedVariables false
set_option linter.unusedSimpArgs false

/-! ### layout_Least: function 71 -/
def layout_Least.f (a0_0 : Int) (a0_1 : Int) (a0_2 : Int) (a0_3 : Int) (a0_4 : Int) (l0_5 : List (S24)) : Option (Int) := if wfF (toF ⟨a0_0, a0_1, a0_2, a0_3, a0_4, l0_5⟩) = true then some (leastR (toF ⟨a0_0, a0_1, a0_2, a0_3, a0_4, l0_5⟩)) else none
set_option maxHeartbeats 8000000 in
set_option maxRecDepth 100000 in
theorem layout_Least.calls (a0_0 : Int) (a0_1 : Int) (a0_2 : Int) (a0_3 : Int) (a0_4 : Int) (A0_5 : Option Addr) (c0_5 : Nat) (l0_5 : List (S24)) (r : Int) (w : World) (hr0_5 : Kd.C k24 w A0_5 l0_5.length l0_5) (hc0_5 : l0_5.length ≤ c0_5) (h : layout_Least.f a0_0 a0_1 a0_2 a0_3 a0_4 l0_5 = some r) :
  Calls Tryd.prog 71 #[.agg #[.int .i64 a0_0, .int .i64 a0_1, .int .i64 a0_2, .int .i64 a0_3, .int .i64 a0_4, .slice A0_5 l0_5.length c0_5]] w fun e w' => e = .returned (.int .i64 r) ∧ Below w.heap.size w w' := by
 unfold layout_Least.f at h
 split at h
 ·rename_i hw
  injection h with h
  subst h
  exact (least_any (fun x => x < w.heap.size) _ (toF ⟨a0_0, a0_1, a0_2, a0_3, a0_4, l0_5⟩) w (c_FmR hr0_5 hc0_5 hw)).mono fun e w' h => ⟨h.1, h.2.below⟩
 ·cases h

end Go.Proofs.YtdhnfccgojgehaaDoor.QP

namespace Go.Proofs.YtdhnfccgojgehaaDoor
open Go.RowKit YtdhnfccgojgehaaDoorW.PrintWords

structure OwnOk (a : FH) : Prop where
 k0 : a.k = 0 → 1 ≤ a.s ∧ a.s ≤ 8
 k12 : a.k = 1 ∨ a.k = 2 → 1 ≤ a.s ∧ a.s ≤ 3 ∧ 0 ≤ a.lo ∧ a.lo ≤ a.hi ∧ a.hi ≤ 16777215 ∧ a.hi ≤ 256 ^ a.s.toNat - 1 ∧ 1 ≤ a.st ∧ a.st ≤ 65536
 k4 : a.k = 4 → 0 ≤ a.lo ∧ a.lo ≤ a.hi ∧ a.hi ≤ 16777215
 k5 : a.k = 5 → 0 ≤ a.lo ∧ a.lo ≤ 16777215
 k : 0 ≤ a.k ∧ a.k ≤ 5
theorem own_ok {a : FH} {n : Nat} (h : ownN a.k a.s a.lo a.hi a.st n = 0) : OwnOk a ∧ (a.k = 2 → n = 1) ∧ (a.k = 3 → n ≤ 32) := by
 obtain ⟨k, s, lo, hi, st⟩ := a
 simp only [] at h ⊢
 unfold ownN at h
 by_cases k0 : k = 0
 ·rw [if_pos k0] at h
  split at h
  ·omega
  ·exact ⟨⟨fun _ => ⟨by simp only []; omega, by simp only []; omega⟩, fun h => by simp only [] at h; omega, fun h => by simp only [] at h; omega, fun h => by simp only [] at h; omega, ⟨by simp only []; omega, by simp only []; omega⟩⟩, by omega, by omega⟩
 rw [if_neg k0] at h
 by_cases k12 : k = 2 ∨ k = 1
 ·rw [if_pos k12] at h
  split at h
  ·omega
  rename_i hs
  split at h
  ·omega
  rename_i hb
  have hb1 : ¬ boundsR lo hi (256 ^ s.toNat - 1) ≠ 0 := fun x => hb (.inl x)
  rw [bounds_ne] at hb1
  have hM : (256 : Int) ^ s.toNat - 1 ≤ 16777215 := by
   rcases (show s.toNat = 1 ∨ s.toNat = 2 ∨ s.toNat = 3 by omega) with e | e | e <;> rw [e] <;> decide
  refine ⟨⟨fun h => by simp only [] at h; omega, fun _ => ⟨by simp only []; omega, by simp only []; omega, by simp only []; omega, by simp only []; omega, by simp only []; omega, ?_, by simp only []; omega, by simp only []; omega⟩, fun h => by simp only [] at h; omega, fun h => by simp only [] at h; omega, ⟨by simp only []; omega, by simp only []; omega⟩⟩, fun k2 => ?_, by omega⟩
  ·show hi ≤ (256 : Int) ^ s.toNat - 1
   omega
  ·split at h
   ·omega
   ·omega
 rw [if_neg k12] at h
 by_cases k3 : k = 3
 ·rw [if_pos k3] at h
  split at h
  ·omega
  ·exact ⟨⟨fun h => by simp only [] at h; omega, fun h => by simp only [] at h; omega, fun h => by simp only [] at h; omega, fun h => by simp only [] at h; omega, ⟨by simp only []; omega, by simp only []; omega⟩⟩, by omega, by omega⟩
 rw [if_neg k3] at h
 by_cases k4 : k = 4
 ·rw [if_pos k4] at h
  have hb : ¬ boundsR lo hi 16777215 ≠ 0 := by omega
  rw [bounds_ne] at hb
  exact ⟨⟨fun h => by simp only [] at h; omega, fun h => by simp only [] at h; omega, fun _ => ⟨by simp only []; omega, by simp only []; omega, by simp only []; omega⟩, fun h => by simp only [] at h; omega, ⟨by simp only []; omega, by simp only []; omega⟩⟩, by omega, by omega⟩
 rw [if_neg k4] at h
 by_cases k5 : k = 5
 ·rw [if_pos k5] at h
  have hb : ¬ boundsR lo lo 16777215 ≠ 0 := by omega
  rw [bounds_ne] at hb
  exact ⟨⟨fun h => by simp only [] at h; omega, fun h => by simp only [] at h; omega, fun h => by simp only [] at h; omega, fun _ => ⟨by simp only []; omega, by simp only []; omega⟩, ⟨by simp only []; omega, by simp only []; omega⟩⟩, by omega, by omega⟩
 ·rw [if_neg k5] at h
  omega
/-- What a right form is. -/
theorem check_ok {a : FH} {l : List Fm} (h : checkR (.mk a l) = 0) : OwnOk a ∧ (a.k = 2 → l.length = 1) ∧ (a.k = 3 → l.length ≤ 32) ∧ ((a.k = 2 ∨ a.k = 3) → (∀ x ∈ l, checkR x = 0) ∧ badF a.k l.length 0 l = false) := by
 rw [checkR_mk] at h
 by_cases h0 : ownN a.k a.s a.lo a.hi a.st l.length ≠ 0
 ·rw [if_pos h0] at h
  exact absurd h h0
 rw [if_neg h0] at h
 have ho := own_ok (Decidable.not_not.1 h0)
 refine ⟨ho.1, ho.2.1, ho.2.2, fun hk => ?_⟩
 rw [if_pos hk] at h
 have hL : ∀ t : List Fm, checkL t = 0 → ∀ x ∈ t, checkR x = 0 := by
  intro t
  induction t with
  | nil => intro _ x hx; simp at hx
  | cons f t ih =>
   intro h x hx
   rw [checkL] at h
   split at h
   ·omega
   ·rcases List.mem_cons.1 hx with rfl | hx
    ·omega
    ·exact ih h x hx
 split at h
 ·omega
 ·rename_i h1
  refine ⟨hL l (by omega), ?_⟩
  split at h
  ·omega
  ·rename_i h2
   simpa using h2

/-- How many bytes there may be: as many as the forms allow, and no wrap. -/
theorem span_bd (sel : FH → Int) (hs : sel = FH.lo ∨ sel = FH.hi) (f : Fm) : ∀ m, m ≤ 100000 → cntR m f ≤ m → checkR f = 0 → 0 ≤ spanR sel f ∧ spanR sel f ≤ 16777218 * (cntR m f : Nat) := by
 induction f using RT.induct with
 | h a l ih =>
 intro m hm hc hk
 obtain ⟨ho, _, _, hch⟩ := check_ok hk
 have h1 := (cnt_bound (.mk a l) m).1
 rw [spanR_mk]
 by_cases k0 : a.k = 0
 ·rw [if_pos k0]
  have := ho.k0 k0
  omega
 rw [if_neg k0]
 by_cases k12 : a.k = 1 ∨ a.k = 2
 ·rw [if_pos k12]
  have := ho.k12 k12
  have hsel : 0 ≤ sel a ∧ sel a ≤ 16777215 := by rcases hs with rfl | rfl <;> omega
  rw [w64 (by omega) (by omega)]
  omega
 rw [if_neg k12]
 by_cases k4 : a.k = 4
 ·rw [if_pos k4]
  have := ho.k4 k4
  have hsel : 0 ≤ sel a ∧ sel a ≤ 16777215 := by rcases hs with rfl | rfl <;> omega
  omega
 rw [if_neg k4]
 by_cases k5 : a.k = 5
 ·rw [if_pos k5]
  have := ho.k5 k5
  omega
 rw [if_neg k5]
 have k3 : a.k = 3 := by have := ho.k; omega
 have hm1 : 1 ≤ m := by omega
 rw [cntR, if_pos (.inr k3)] at hc ⊢
 have key : ∀ (t : List Fm), (∀ x ∈ t, x ∈ l) → ∀ (n : Nat) (q : Int), cntL m n t ≤ m → n ≤ m → 0 ≤ q → q ≤ 16777218 * (n : Nat) → 0 ≤ spanL sel q t ∧ spanL sel q t ≤ 16777218 * (cntL m n t : Nat) := by
  intro t
  induction t with
  | nil => intro _ n q _ _ h1 h2; rw [spanL, cntL]; exact ⟨h1, h2⟩
  | cons f t ih2 =>
   intro hmem n q hc hn h1 h2
   have hb := cnt_bound f (m - n)
   rw [cntL, if_pos hn] at hc ⊢
   have hle : n + cntR (m - n) f ≤ m := by
    rcases Nat.lt_or_ge m (n + cntR (m - n) f) with h | h
    ·have : cntL m (n + cntR (m - n) f) t = n + cntR (m - n) f := by
      cases t with
      | nil => rw [cntL]
      | cons g u => rw [cntL, if_neg (by omega)]
     omega
    ·exact h
   have hf := ih f (hmem f (by simp)) (m - n) (by omega) (by omega) ((hch (.inr k3)).1 f (hmem f (by simp)))
   rw [spanL, w64 (by omega) (by omega)]
   exact ih2 (fun x hx => hmem x (by simp [hx])) _ _ hc hle (by omega) (by omega)
 exact key l (fun x hx => hx) 1 0 hc (by omega) (by omega) (by omega)

/-! ### My contracts' answers among the printed ones. -/
end Go.Proofs.YtdhnfccgojgehaaDoor

namespace Go.Proofs.YtdhnfccgojgehaaDoor
open Go.RowKit

def bI (l : List UInt8) : List Int := l.map fun b => (b.toNat : Int)
def iB (l : List Int) : List UInt8 := l.map fun x => UInt8.ofNat x.toNat
def okB (l : List Int) : Bool := l.all fun x => decide (0 ≤ x) && decide (x < 256)
theorem bI_len (l : List UInt8) : (bI l).length = l.length := by simp [bI]
theorem iB_bI (l : List UInt8) : iB (bI l) = l := by
 unfold iB bI
 rw [List.map_map]
 conv => rhs; rw [← List.map_id l]
 exact List.map_congr_left (fun b _ => by simp)
theorem okB_bI (l : List UInt8) : okB (bI l) = true := by
 unfold okB bI
 simp only [List.all_map, List.all_eq_true, Function.comp, Bool.and_eq_true, decide_eq_true_eq]
 intro b _
 have := b.toNat_lt
 omega
section
open YtdhnfccgojgehaaDoorW.PrintWords
theorem br_c {w : World} {ok : Nat → Prop} {A : Option Addr} {n c : Nat} {l : List UInt8} (h : BR w ok (.slice A n c) l) (hl : l.length ≤ 140737488355328) : n = (bI l).length ∧ (bI l).length ≤ c ∧ (Kd.int .u8).C w A (bI l).length (bI l) := by
 obtain ⟨A', c', e, h1, h2⟩ := h
 injection e with e1 e2 e3
 subst e1 e2 e3
 refine ⟨(bI_len l).symm, by rw [bI_len]; exact h1, rfl, by rw [bI_len]; omega, fun h0 => ?_⟩
 rw [bI_len] at h0
 obtain ⟨ad, e, hsp, _, hc⟩ := h2.2 h0
 refine ⟨ad, e, fun j p hj => ⟨[.int .u8 p], rfl, rfl, fun i u hu => ?_⟩⟩
 obtain rfl : i = 0 := by
  have := (List.getElem?_eq_some_iff.1 hu).1
  simpa using this
 obtain rfl : .int .u8 p = u := by simpa using hu
 refine hc _ _ ?_
 show (bc l)[j * 1 + 0]? = _
 rw [Nat.mul_one, Nat.add_zero]
 rw [bI, List.getElem?_map] at hj
 obtain ⟨b, hb, rfl⟩ := Option.map_eq_some_iff.1 hj
 rw [bc, List.getElem?_map, hb]
 rfl
end

abbrev SV := QP.S31
abbrev kV : YtdhnfccgojgehaaDoorW.PrintWords.Kd SV := QP.k31
mutual
def toV : SV → Vt
 | ⟨n, b, l⟩ => .mk ⟨n, iB b⟩ (toVs l)
def toVs : List SV → List Vt
 | [] => []
 | x :: l => toV x :: toVs l
end
mutual
def ofV : Vt → SV
 | .mk a l => ⟨a.n, bI a.b, ofVs l⟩
def ofVs : List Vt → List SV
 | [] => []
 | x :: l => ofV x :: ofVs l
end
theorem ofVs_map (l : List Vt) : ofVs l = l.map ofV := by
 induction l with
 | nil => rw [ofVs]; rfl
 | cons x l ih => rw [ofVs, ih]; rfl
theorem ofV_mk (a : VH) (l : List Vt) : ofV (.mk a l) = ⟨a.n, bI a.b, l.map ofV⟩ := by rw [ofV, ofVs_map]
theorem rd_ofV (l : List Vt) (j : Nat) (h : j < l.length) : QP.rd_T31 (l.map ofV) (j : Int) = ofV l[j] := by
 simp [QP.rd_T31, h]
theorem ofV_f0 (x : Vt) : (ofV x).f0 = x.a.n := by cases x; rw [ofV_mk]; rfl
theorem ofV_f1 (x : Vt) : (ofV x).f1 = bI x.a.b := by cases x; rw [ofV_mk]; rfl
theorem ofV_f2 (x : Vt) : (ofV x).f2 = x.l.map ofV := by cases x; rw [ofV_mk]; rfl
mutual
/-- Numbers of 64 bits, bytes that are bytes, and lengths that there may be. -/
def wfSV : SV → Bool
 | ⟨n, b, l⟩ => (decide (0 ≤ n) && decide (n < 18446744073709551616)) && (okB b && (decide (b.length ≤ 140737488355328) && (decide (l.length ≤ 140737488355328) && wfSVs l)))
def wfSVs : List SV → Bool
 | [] => true
 | x :: l => wfSV x && wfSVs l
end
theorem wfSVs_iff (l : List SV) : wfSVs l = true ↔ ∀ x ∈ l, wfSV x = true := by
 induction l with
 | nil => rw [wfSVs]; simp
 | cons x l ih => rw [wfSVs]; simp [ih]
theorem wfSV_mk (n : Int) (b : List Int) (l : List SV) : wfSV ⟨n, b, l⟩ = true ↔ u64B n ∧ okB b = true ∧ b.length ≤ 140737488355328 ∧ l.length ≤ 140737488355328 ∧ ∀ x ∈ l, wfSV x = true := by
 rw [wfSV]
 simp only [Bool.and_eq_true, decide_eq_true_eq, wfSVs_iff, u64B]
def wfV (x : Vt) : Bool := wfSV (ofV x)
theorem wfV_mk (a : VH) (l : List Vt) : wfV (.mk a l) = true ↔ u64B a.n ∧ a.b.length ≤ 140737488355328 ∧ l.length ≤ 140737488355328 ∧ ∀ x ∈ l, wfV x = true := by
 unfold wfV
 rw [ofV_mk, wfSV_mk, bI_len, List.length_map]
 simp only [okB_bI, true_and, List.mem_map, forall_exists_index, and_imp, forall_apply_eq_imp_iff₂]
section
open YtdhnfccgojgehaaDoorW.PrintWords
theorem tr_wfV {w : World} {ok : Nat → Prop} (x : Vt) : ∀ cs, TR VHd 3 w ok x cs → wfV x = true := by
 induction x using RT.induct with
 | h a l ih =>
 intro cs h
 obtain ⟨hd, A, c, _, _, ⟨_, _, ho, _, hb⟩, _, h2, h3⟩ := (TR_def _ _ _ _ _ _).1 h
 refine (wfV_mk _ _).2 ⟨ho, hb, h2, fun x hx => ?_⟩
 obtain ⟨i, hi, rfl⟩ := List.mem_iff_getElem.1 hx
 obtain ⟨b, off, cs', _, _, ht, _⟩ := h3.at_ hi
 exact ih _ hx cs' ht
theorem tl_cV {w : World} {ok : Nat → Prop} {l : List Vt} {A : Option Addr} (hl : l.length ≤ 140737488355328) (h : TL VHd 3 w ok l A) (hk : ∀ x ∈ l, ∀ cs, TR VHd 3 w ok x cs → kV.K w (ofV x) cs) : kV.C w A (l.map ofV).length (l.map ofV) := by
 refine ⟨rfl, by rw [List.length_map]; omega, fun h0 => ?_⟩
 rw [List.length_map] at h0
 obtain ⟨b, off, e, _, ht⟩ := h h0
 refine ⟨_, e, fun j p hj => ?_⟩
 rw [List.getElem?_map] at hj
 obtain ⟨x, hx, rfl⟩ := Option.map_eq_some_iff.1 hj
 obtain ⟨hjl, rfl⟩ := List.getElem?_eq_some_iff.1 hx
 obtain ⟨cs, h1, h2⟩ := ht.at_ hjl
 refine ⟨cs, ?_, hk _ (List.getElem_mem hjl) cs h1, fun i u hu => ?_⟩
 ·obtain ⟨hd, A', c', e', hl', _⟩ := (TR_def _ _ _ _ _ _).1 h1
  rw [e', List.length_append]
  exact hl'
 ·rw [add_spot]
  have := h2 i u hu
  rwa [Nat.add_assoc] at this
theorem tr_kV {w : World} {ok : Nat → Prop} (x : Vt) : ∀ cs, TR VHd 3 w ok x cs → kV.K w (ofV x) cs := by
 induction x using RT.induct with
 | h a l ih =>
 intro cs h
 obtain ⟨hd, A, c, e, _, ⟨bv, hh, _, hb, hbl⟩, h1, h2, h3⟩ := (TR_def _ _ _ _ _ _).1 h
 subst hh
 subst e
 rw [ofV_mk]
 have hc := tl_cV h2 h3 ih
 obtain ⟨A1, c1, e1, _, _⟩ := id hb
 subst e1
 obtain ⟨g1, g2, g3⟩ := br_c hb hbl
 have := QP.k31_mk w ⟨a.n, bI a.b, l.map ofV⟩ (A1 := A1) (c1 := c1) g2 g3 (A2 := A) (c2 := c) (by simpa using (show l.length ≤ c from h1)) hc
 rw [List.length_map, bI_len] at this
 exact this
/-- Values in a slice, for the printed texts. -/
theorem VsR.c {w : World} {ok : Nat → Prop} {A : Option Addr} {n c : Nat} {l : List Vt} (h : VsR w ok (.slice A n c) l) : n = (l.map ofV).length ∧ (l.map ofV).length ≤ c ∧ kV.C w A (l.map ofV).length (l.map ofV) := by
 obtain ⟨A', c', e, h1, h2, h3⟩ := h
 injection e with e1 e2 e3
 subst e1 e2 e3
 exact ⟨by simp, by simpa using h1, tl_cV h2 h3 (fun x _ => tr_kV x)⟩
theorem VsR.wf {w : World} {ok : Nat → Prop} {v : Value} {l : List Vt} (h : VsR w ok v l) : l.length ≤ 140737488355328 ∧ ∀ x ∈ l, wfV x = true := by
 obtain ⟨A', c', e, h1, h2, h3⟩ := h
 refine ⟨h2, fun x hx => ?_⟩
 obtain ⟨i, hi, rfl⟩ := List.mem_iff_getElem.1 hx
 obtain ⟨b, off, cs', _, _, ht, _⟩ := h3.at_ hi
 exact tr_wfV _ cs' ht
end
end Go.Proofs.YtdhnfccgojgehaaDoor

namespace Go.Proofs.YtdhnfccgojgehaaDoor
open Go.RowKit

mutual
/-- How many values there are in one; no more than so many (and one) are told. -/
def cntV : Nat → Vt → Nat
 | m, .mk _ l => cntVs m 1 l
def cntVs : Nat → Nat → List Vt → Nat
 | _, n, [] => n
 | m, n, x :: t => if n ≤ m then cntVs m (n + cntV (m - n) x) t else n
end
mutual
/-- How many bytes. -/
def bytV : Nat → Vt → Nat
 | m, .mk a l => bytVs m a.b.length l
def bytVs : Nat → Nat → List Vt → Nat
 | _, n, [] => n
 | m, n, x :: t => if n ≤ m then bytVs m (n + bytV (m - n) x) t else n
end
theorem cntVs_end {l : List Vt} {k m n : Nat} (hk : ¬ (k < l.length ∧ n ≤ m)) : cntVs m n (l.drop k) = n := by
 by_cases h : k < l.length
 ·rw [List.drop_eq_getElem_cons h, cntVs, if_neg (by omega)]
 ·rw [List.drop_of_length_le (by omega), cntVs]
theorem cntVs_drop {l : List Vt} {k m n : Nat} (hk : k < l.length) : cntVs m n (l.drop k) = if n ≤ m then cntVs m (n + cntV (m - n) l[k]) (l.drop (k + 1)) else n := by
 rw [List.drop_eq_getElem_cons hk, cntVs]
theorem bytVs_end {l : List Vt} {k m n : Nat} (hk : ¬ (k < l.length ∧ n ≤ m)) : bytVs m n (l.drop k) = n := by
 by_cases h : k < l.length
 ·rw [List.drop_eq_getElem_cons h, bytVs, if_neg (by omega)]
 ·rw [List.drop_of_length_le (by omega), bytVs]
theorem bytVs_drop {l : List Vt} {k m n : Nat} (hk : k < l.length) : bytVs m n (l.drop k) = if n ≤ m then bytVs m (n + bytV (m - n) l[k]) (l.drop (k + 1)) else n := by
 rw [List.drop_eq_getElem_cons hk, bytVs]
theorem cntV_bound (x : Vt) : ∀ m, 1 ≤ cntV m x ∧ cntV m x ≤ m + 1 := by
 induction x using RT.induct with
 | h a l ih =>
 intro m
 rw [cntV]
 have key : ∀ (t : List Vt), (∀ f ∈ t, ∀ m, 1 ≤ cntV m f ∧ cntV m f ≤ m + 1) → ∀ n, n ≤ m + 1 → n ≤ cntVs m n t ∧ cntVs m n t ≤ m + 1 := by
  intro t
  induction t with
  | nil => intro _ n hn; rw [cntVs]; omega
  | cons f t ih2 =>
   intro hf n hn
   rw [cntVs]
   split
   ·have h1 := hf f (by simp) (m - n)
    have h2 := ih2 (fun g hg => hf g (by simp [hg])) (n + cntV (m - n) f) (by omega)
    omega
   ·omega
 exact key l ih 1 (by omega)
/-- A number of bytes that is told to the end. -/
theorem bytV_bound (x : Vt) : ∀ m, wfV x = true → m ≤ 100000 → bytV m x ≤ m + 140737488355328 := by
 induction x using RT.induct with
 | h a l ih =>
 intro m hw hm
 obtain ⟨_, hb, _, hws⟩ := (wfV_mk _ _).1 hw
 rw [bytV]
 have key : ∀ (t : List Vt), (∀ f ∈ t, f ∈ l) → ∀ n, n ≤ m + 140737488355328 → bytVs m n t ≤ m + 140737488355328 := by
  intro t
  induction t with
  | nil => intro _ n hn; rw [bytVs]; omega
  | cons f t ih2 =>
   intro hf n hn
   rw [bytVs]
   split
   ·have h1 := ih f (hf f (by simp)) (m - n) (hws f (hf f (by simp))) (by omega)
    exact ih2 (fun g hg => hf g (by simp [hg])) (n + bytV (m - n) f) (by omega)
   ·omega
 exact key l (fun f hf => hf) _ (by omega)
theorem sizeR_eq {f : Fm} {x : Vt} (hd : deepB 8 f = false) (hc : checkR f = 0) : sizeR f x = if (fitR f x).2 = 0 then ((fitR f x).1, 0) else (0, (fitR f x).2) := by
 unfold sizeR
 rw [hd]
 simp [hc]
end Go.Proofs.YtdhnfccgojgehaaDoor

namespace Go.Proofs.YtdhnfccgojgehaaDoor.QP
open Go.RowKit Go.Proofs.YtdhnfccgojgehaaDoorW.PrintWords Go.Proofs.YtdhnfccgojgehaaDoorW.PrintLast Go.Proofs.YtdhnfccgojgehaaDoorW.PrintMore
attribute [local go_sem] max2_int min2_int max_two min_two max_three min_three max_four min_four   -- for this text's walks alone
set_option linter.unusedVariables false
set_option linter.unusedSimpArgs false

/-! ### passepartoutref05_Count: function 33 -/
mutual
def passepartoutref05_Count.l0 : Nat → Int → Int → Int → Int → List Int → List (S31) → Option (Int)
 | 0, _, _, _, _, _, _ => none
 | k + 1, x1, x5, x6, x159000, x159001, x159002 => if x6 < (x159002.length : Int) then (if x5 ≤ x1 then (if 0 ≤ x6 then ((passepartoutref05_Count.f k ((rd_T31 x159002 x6).f0) ((rd_T31 x159002 x6).f1) ((rd_T31 x159002 x6).f2) (wrap64 (x1 - x5))).bind fun t160 => (passepartoutref05_Count.l0 k x1 (wrap64 (x5 + t160)) (wrap64 (x6 + 1)) x159000 x159001 x159002)) else (none)) else (some x5)) else (some x5)
def passepartoutref05_Count.f : Nat → Int → List Int → List (S31) → Int → Option (Int)
 | 0, _, _, _, _ => none
 | k + 1, a0_0, l0_1, l0_2, a1 => passepartoutref05_Count.l0 k a1 1 0 a0_0 l0_1 l0_2
end
theorem passepartoutref05_Count.mono_l : ∀ k, (∀ y0 y1 y2 y3, LeO (passepartoutref05_Count.f k y0 y1 y2 y3) (passepartoutref05_Count.f (k + 1) y0 y1 y2 y3)) ∧ (∀ y0 y1 y2 y3 y4 y5, LeO (passepartoutref05_Count.l0 k y0 y1 y2 y3 y4 y5) (passepartoutref05_Count.l0 (k + 1) y0 y1 y2 y3 y4 y5))
 | 0 => ⟨fun _ _ _ _ r h => by simp [passepartoutref05_Count.f] at h, fun _ _ _ _ _ _ r h => by simp [passepartoutref05_Count.l0] at h⟩
 | k + 1 => by
  obtain ⟨ih0, ih1⟩ := passepartoutref05_Count.mono_l k
  refine ⟨?_, ?_⟩
  ·intro y0 y1 y2 y3
   unfold passepartoutref05_Count.f
   repeat' first
   | (with_reducible exact ih0 _ _ _ _)
   | (with_reducible exact ih1 _ _ _ _ _ _)
   | (with_reducible exact LeO.refl _)
   | (with_reducible exact LeO.none _)
   | (with_reducible refine LeO.ite ?_ ?_)
   | (with_reducible refine LeO.bind ?_ (fun _ => ?_))
   | exact ih0 _ _ _ _
   | exact ih1 _ _ _ _ _ _
   | exact LeO.none _
   | refine LeO.ite ?_ ?_
   | refine LeO.bind ?_ (fun _ => ?_)
  ·intro y0 y1 y2 y3 y4 y5
   unfold passepartoutref05_Count.l0
   repeat' first
   | (with_reducible exact ih0 _ _ _ _)
   | (with_reducible exact ih1 _ _ _ _ _ _)
   | (with_reducible exact LeO.refl _)
   | (with_reducible exact LeO.none _)
   | (with_reducible refine LeO.ite ?_ ?_)
   | (with_reducible refine LeO.bind ?_ (fun _ => ?_))
   | exact ih0 _ _ _ _
   | exact ih1 _ _ _ _ _ _
   | exact LeO.none _
   | refine LeO.ite ?_ ?_
   | refine LeO.bind ?_ (fun _ => ?_)
theorem passepartoutref05_Count.mono : ∀ a0 a1 a2 a3 k, LeO (passepartoutref05_Count.f k a0 a1 a2 a3) (passepartoutref05_Count.f (k + 1) a0 a1 a2 a3) := by
 intro a0 a1 a2 a3 k
 obtain ⟨ih0, ih1⟩ := passepartoutref05_Count.mono_l k
 exact ih0 a0 a1 a2 a3
set_option maxHeartbeats 8000000 in
set_option maxRecDepth 100000 in
theorem passepartoutref05_Count.calls (k : Nat) : ∀ (a0_0 : Int) (A0_1 : Option Addr) (c0_1 : Nat) (l0_1 : List Int) (A0_2 : Option Addr) (c0_2 : Nat) (l0_2 : List (S31)) (a1 : Int) (r : Int) (w : World) (hr0_1 : Kd.C (Kd.int .u8) w A0_1 l0_1.length l0_1) (hc0_1 : l0_1.length ≤ c0_1) (hr0_2 : Kd.C k31 w A0_2 l0_2.length l0_2) (hc0_2 : l0_2.length ≤ c0_2) (h : passepartoutref05_Count.f k a0_0 l0_1 l0_2 a1 = some r),
  Calls Tryd.prog 33 #[.agg #[.int .u64 a0_0, .slice A0_1 l0_1.length c0_1, .slice A0_2 l0_2.length c0_2], .int .i64 a1] w fun e w' => e = .returned (.int .i64 r) ∧ Below w.heap.size w w' := by
 induction k using Nat.strongRecOn with
 | _ k ih =>
 intro a0_0 A0_1 c0_1 l0_1 A0_2 c0_2 l0_2 a1 r w hr0_1 hc0_1 hr0_2 hc0_2 h
 cases k with
 | zero => exact absurd h (by simp [passepartoutref05_Count.f])
 | succ k =>
 simp only [passepartoutref05_Count.f] at h
 have hu31 := Tryd.underlying31
 have HR0_1 := Aside0.mk hr0_1
 have HC0_1 := Aside0.mk hc0_1
 clear hr0_1 hc0_1
 have HR0_2 := Aside0.mk hr0_2
 have HC0_2 := Aside0.mk hc0_2
 clear hr0_2 hc0_2
 have HB := Aside0.mk (Below.refl w.heap.size w)
 have H : (passepartoutref05_Count.l0 k a1 1 0 a0_0 l0_1 l0_2) = some r := h
 clear h
 have H' := Aside0.mk H
 clear H
 go_enter Tryd.func33, Tryd.ntmps33
 go_wp2_with (first | ((with_reducible refine gate_dst (N := 2) rfl ?_); refine box_event ?hg (N := 2) ?hd (cs := #[.int .u64 a0_0, .slice A0_1 l0_1.length c0_1, .slice A0_2 l0_2.length c0_2]) (t := 31) ?hr ?_; (case hd => rfl); (case hg => rfl); (case hr => first | (go_simp; done) | (go_simp; rfl)); intro gb158 hg w3 hbox hb; have n0_ := Aside0.mk (below_step (by repeat (first | (with_reducible first | exact HB.out | apply below_alloc | apply pw_below_drewN | apply below_drew1) | exact HB.out)) hb); have n1_ := Aside0.mk (hbox); have n2_ := Aside0.mk ((by rw [hg]; exact (below_size (by repeat (first | (with_reducible first | exact HB.out | apply below_alloc | apply pw_below_drewN | apply below_drew1) | exact HB.out))) : w.heap.size ≤ gb158)); have n3_ := Aside0.mk ((by rw [hg]; exact (below_size (by repeat (first | (with_reducible first | exact HB.out | apply below_alloc | apply pw_below_drewN | apply below_drew1) | exact HB.out))) : w.heap.size ≤ gb158)); clear HB; have HB := n0_; have BK158 := n1_; have GW158 := n2_; have GE158 := n3_; clear n0_ n1_ n2_ n3_; clear hb hbox hg))
 go_loopg [5, 6] k (fun kq v5 v6 w' => ∃ (x5_1 : Int) (x6_1 : Int), v5 = .int .i64 x5_1 ∧ v6 = .int .i64 x6_1 ∧ Aside0 (passepartoutref05_Count.l0 kq a1 x5_1 x6_1 a0_0 l0_1 l0_2 = some r) ∧ Aside0 (kq ≤ k) ∧ Aside0 (w'.heap[gb158]? = some (.cells #[.int .u64 a0_0, (.slice A0_1 l0_1.length c0_1), (.slice A0_2 l0_2.length c0_2)] 31 (0, 0))) ∧ Aside0 (Below w.heap.size w w'))
 case atStart => exact ⟨(1), (0), (by first | rfl | (simp; done) | (simp [*]; done)), (by first | rfl | (simp; done) | (simp [*]; done)), H', ⟨Nat.le_refl _⟩, ⟨by (with_reducible repeat (first | refine blk_drewN ?_ _ | refine blk_drew ?_ | refine blk_alloc ?_ _)); exact BK158.out⟩, ⟨by repeat (first | (with_reducible first | exact HB.out | apply below_alloc | apply pw_below_drewN | apply below_drew1 | refine below_set ?_ GE158.out) | exact HB.out)⟩⟩
 case round =>
  clear H'
  try clear p2
  try clear c3
  obtain ⟨x5_1, x6_1, rfl, rfl, HA, HK1, BK158, HB⟩ := hrel
  cases gk with
  | zero => exact absurd HA.out (by simp [passepartoutref05_Count.l0])
  | succ k1 =>
   have H := HA.out
   clear HA
   simp only [passepartoutref05_Count.l0] at H
   by_cases c4 : x6_1 < (l0_2.length : Int)
   ·rw [if_pos c4] at H
    have c4b0 : decide (x6_1 < (l0_2.length : Int)) = true := decide_eq_true c4
    clear c4
    by_cases c5 : x5_1 ≤ a1
    ·rw [if_pos c5] at H
     have c5b0 : decide (x5_1 ≤ a1) = true := decide_eq_true c5
     clear c5
     by_cases c6 : 0 ≤ x6_1
     ·rw [if_pos c6] at H
      have c6b0 : decide (0 ≤ x6_1) = true := decide_eq_true c6
      clear c6
      replace H := Option.bind_eq_some_iff.mp H
      obtain ⟨t160, A70, H⟩ := H
      replace H : (passepartoutref05_Count.l0 k1 a1 (wrap64 (x5_1 + t160)) (wrap64 (x6_1 + 1)) a0_0 l0_1 l0_2) = some r := H
      have A7 := Aside0.mk A70
      clear A70
      have H' := Aside0.mk H
      clear H
      have hcz8_0 : wr.cell? ⟨gb158, 0, none⟩ = some (.int .u64 a0_0) := (blk_cell BK158.out 0).trans rfl
      have hcz8_1 : wr.cell? ⟨gb158, 1, none⟩ = some (.slice A0_1 l0_1.length c0_1) := (blk_cell BK158.out 1).trans rfl
      have hcz8_2 : wr.cell? ⟨gb158, 2, none⟩ = some (.slice A0_2 l0_2.length c0_2) := (blk_cell BK158.out 2).trans rfl
      have hfz8_0 := blk_frozen BK158.out 0
      have hfz8_1 := blk_frozen BK158.out 1
      have hfz8_2 := blk_frozen BK158.out 2
      have p159 : 0 ≤ (x6_1 : Int) := of_decide_eq_true (by first | (with_reducible assumption) | assumption)
      have q159 : x6_1 < (l0_2.length : Int) := of_decide_eq_true (by first | (with_reducible assumption) | assumption)
      obtain ⟨ad159, A159_1, c159_1, A159_2, c159_2, e159, hx159_0, hx159_1, hx159_2, hl159_1, hi159_1, hl159_2, hi159_2⟩ := at_T31 HR0_2.out x6_1 p159 q159
      cases e159
      replace hx159_0 := (HB.out.cell (World.block_lt_of_cell? w _ hx159_0)).trans hx159_0
      replace hx159_1 := (HB.out.cell (World.block_lt_of_cell? w _ hx159_1)).trans hx159_1
      replace hx159_2 := (HB.out.cell (World.block_lt_of_cell? w _ hx159_2)).trans hx159_2
      have HR159_1 := Aside0.mk hi159_1
      have HC159_1 := Aside0.mk hl159_1
      clear hi159_1 hl159_1
      have HR159_2 := Aside0.mk hi159_2
      have HC159_2 := Aside0.mk hl159_2
      clear hi159_2 hl159_2
      replace p159 := eq_true p159
      replace q159 := eq_true q159
      go_wp2_with (first | ((with_reducible refine gate_callee (f := 33) rfl ?_); refine goesL_ (some 28) rfl rfl Tryd.func33 (by kernel_rfl) rfl #[.agg #[.int .u64 ((rd_T31 l0_2 x6_1).f0), .slice A159_1 ((rd_T31 l0_2 x6_1).f1).length c159_1, .slice A159_2 ((rd_T31 l0_2 x6_1).f2).length c159_2], .int .i64 (wrap64 (a1 - x5_1))] rfl (by (try simp only [List.map_toArray, List.map_cons, List.map_nil]); first | done | rfl | (simp only [List.length_drop, List.length_take]; rfl)) ?_; (with_reducible refine (ih k1 (by have := HK1.out; omega) ((rd_T31 l0_2 x6_1).f0) _ _ ((rd_T31 l0_2 x6_1).f1) _ _ ((rd_T31 l0_2 x6_1).f2) (wrap64 (a1 - x5_1)) t160 _ ?side1 ?side2 ?side3 ?side4 A7.out).mono ?_); (case side1 => repeat (first | exact (Kd.C_below HR159_1.out HB.out) | (with_reducible refine Kd.C_alloc ?_ _) | (with_reducible refine Kd.C_drewN ?_ _) | (with_reducible refine Kd.C_drew ?_))); (case side2 => exact HC159_1.out); (case side3 => repeat (first | exact (Kd.C_below HR159_2.out HB.out) | (with_reducible refine Kd.C_alloc ?_ _) | (with_reducible refine Kd.C_drewN ?_ _) | (with_reducible refine Kd.C_drew ?_))); (case side4 => exact HC159_2.out); rintro e w9 ⟨rfl, hb⟩; refine ⟨_, rfl, ?_⟩; have n0_ := Aside0.mk (blk_below (g := gb158) (o := .cells #[.int .u64 a0_0, .slice A0_1 l0_1.length c0_1, .slice (some ad159) l0_2.length c0_2] 31 (0, 0)) (by (with_reducible repeat (first | refine blk_drewN ?_ _ | refine blk_drew ?_ | refine blk_alloc ?_ _)); exact BK158.out) hb); have n1_ := Aside0.mk (below_step (by repeat (first | (with_reducible first | exact HB.out | apply below_alloc | apply pw_below_drewN | apply below_drew1 | refine below_set ?_ GE158.out) | exact HB.out)) hb); clear BK158; clear HB; have BK158 := n0_; have HB := n1_; clear n0_ n1_; (try clear hb); (try clear hb2); (try clear hk); (try clear hi)))
      go_roundg k1
      case measure => have := HK1.out; omega
      case rel => exact ⟨(wrap64 (x5_1 + t160)), (wrap64 (x6_1 + 1)), (by first | rfl | (simp; done) | (simp [*]; done)), (by first | rfl | (simp; done) | (simp [*]; done)), H', ⟨by have := HK1.out; omega⟩, ⟨by (with_reducible repeat (first | refine blk_drewN ?_ _ | refine blk_drew ?_ | refine blk_alloc ?_ _)); exact BK158.out⟩, ⟨by repeat (first | (with_reducible first | exact HB.out | apply below_alloc | apply pw_below_drewN | apply below_drew1 | refine below_set ?_ GE158.out) | exact HB.out)⟩⟩
     ·rw [if_neg c6] at H
      exact absurd H (by simp)
    ·rw [if_neg c5] at H
     have c5b0 : decide (x5_1 ≤ a1) = false := decide_eq_false c5
     clear c5
     obtain rfl := Option.some.inj H
     have hcz10_0 : wr.cell? ⟨gb158, 0, none⟩ = some (.int .u64 a0_0) := (blk_cell BK158.out 0).trans rfl
     have hcz10_1 : wr.cell? ⟨gb158, 1, none⟩ = some (.slice A0_1 l0_1.length c0_1) := (blk_cell BK158.out 1).trans rfl
     have hcz10_2 : wr.cell? ⟨gb158, 2, none⟩ = some (.slice A0_2 l0_2.length c0_2) := (blk_cell BK158.out 2).trans rfl
     have hfz10_0 := blk_frozen BK158.out 0
     have hfz10_1 := blk_frozen BK158.out 1
     have hfz10_2 := blk_frozen BK158.out 2
     go_wp2
     go_ret
     exact ⟨by first | rfl | (simp [errW_none, errW_some] <;> rfl) | (simp [*, errW_none, errW_some] <;> rfl), by repeat (first | (with_reducible first | exact HB.out | apply below_alloc | apply pw_below_drewN | apply below_drew1 | refine below_set ?_ GE158.out) | exact HB.out)⟩
   ·rw [if_neg c4] at H
    have c4b0 : decide (x6_1 < (l0_2.length : Int)) = false := decide_eq_false c4
    clear c4
    obtain rfl := Option.some.inj H
    have hcz11_0 : wr.cell? ⟨gb158, 0, none⟩ = some (.int .u64 a0_0) := (blk_cell BK158.out 0).trans rfl
    have hcz11_1 : wr.cell? ⟨gb158, 1, none⟩ = some (.slice A0_1 l0_1.length c0_1) := (blk_cell BK158.out 1).trans rfl
    have hcz11_2 : wr.cell? ⟨gb158, 2, none⟩ = some (.slice A0_2 l0_2.length c0_2) := (blk_cell BK158.out 2).trans rfl
    have hfz11_0 := blk_frozen BK158.out 0
    have hfz11_1 := blk_frozen BK158.out 1
    have hfz11_2 := blk_frozen BK158.out 2
    go_wp2
    go_ret
    exact ⟨by first | rfl | (simp [errW_none, errW_some] <;> rfl) | (simp [*, errW_none, errW_some] <;> rfl), by repeat (first | (with_reducible first | exact HB.out | apply below_alloc | apply pw_below_drewN | apply below_drew1 | refine below_set ?_ GE158.out) | exact HB.out)⟩

end Go.Proofs.YtdhnfccgojgehaaDoor.QP

namespace Go.Proofs.YtdhnfccgojgehaaDoor.QP
open Go.RowKit Go.Proofs.YtdhnfccgojgehaaDoorW.PrintWords Go.Proofs.YtdhnfccgojgehaaDoorW.PrintLast Go.Proofs.YtdhnfccgojgehaaDoorW.PrintMore
attribute [local go_sem] max2_int min2_int max_two min_two max_three min_three max_four min_four   -- for this text's walks alone
set_option linter.unusedVariables false
set_option linter.unusedSimpArgs false

/-! ### passepartoutref05_Bytes: function 34 -/
mutual
def passepartoutref05_Bytes.l0 : Nat → Int → Int → Int → Int → List Int → List (S31) → Option (Int)
 | 0, _, _, _, _, _, _ => none
 | k + 1, x1, x5, x6, x162000, x162001, x162002 => if x6 < (x162002.length : Int) then (if x5 ≤ x1 then (if 0 ≤ x6 then ((passepartoutref05_Bytes.f k ((rd_T31 x162002 x6).f0) ((rd_T31 x162002 x6).f1) ((rd_T31 x162002 x6).f2) (wrap64 (x1 - x5))).bind fun t163 => (passepartoutref05_Bytes.l0 k x1 (wrap64 (x5 + t163)) (wrap64 (x6 + 1)) x162000 x162001 x162002)) else (none)) else (some x5)) else (some x5)
def passepartoutref05_Bytes.f : Nat → Int → List Int → List (S31) → Int → Option (Int)
 | 0, _, _, _, _ => none
 | k + 1, a0_0, l0_1, l0_2, a1 => passepartoutref05_Bytes.l0 k a1 (l0_1.length : Int) 0 a0_0 l0_1 l0_2
end
theorem passepartoutref05_Bytes.mono_l : ∀ k, (∀ y0 y1 y2 y3, LeO (passepartoutref05_Bytes.f k y0 y1 y2 y3) (passepartoutref05_Bytes.f (k + 1) y0 y1 y2 y3)) ∧ (∀ y0 y1 y2 y3 y4 y5, LeO (passepartoutref05_Bytes.l0 k y0 y1 y2 y3 y4 y5) (passepartoutref05_Bytes.l0 (k + 1) y0 y1 y2 y3 y4 y5))
 | 0 => ⟨fun _ _ _ _ r h => by simp [passepartoutref05_Bytes.f] at h, fun _ _ _ _ _ _ r h => by simp [passepartoutref05_Bytes.l0] at h⟩
 | k + 1 => by
  obtain ⟨ih0, ih1⟩ := passepartoutref05_Bytes.mono_l k
  refine ⟨?_, ?_⟩
  ·intro y0 y1 y2 y3
   unfold passepartoutref05_Bytes.f
   repeat' first
   | (with_reducible exact ih0 _ _ _ _)
   | (with_reducible exact ih1 _ _ _ _ _ _)
   | (with_reducible exact LeO.refl _)
   | (with_reducible exact LeO.none _)
   | (with_reducible refine LeO.ite ?_ ?_)
   | (with_reducible refine LeO.bind ?_ (fun _ => ?_))
   | exact ih0 _ _ _ _
   | exact ih1 _ _ _ _ _ _
   | exact LeO.none _
   | refine LeO.ite ?_ ?_
   | refine LeO.bind ?_ (fun _ => ?_)
  ·intro y0 y1 y2 y3 y4 y5
   unfold passepartoutref05_Bytes.l0
   repeat' first
   | (with_reducible exact ih0 _ _ _ _)
   | (with_reducible exact ih1 _ _ _ _ _ _)
   | (with_reducible exact LeO.refl _)
   | (with_reducible exact LeO.none _)
   | (with_reducible refine LeO.ite ?_ ?_)
   | (with_reducible refine LeO.bind ?_ (fun _ => ?_))
   | exact ih0 _ _ _ _
   | exact ih1 _ _ _ _ _ _
   | exact LeO.none _
   | refine LeO.ite ?_ ?_
   | refine LeO.bind ?_ (fun _ => ?_)
theorem passepartoutref05_Bytes.mono : ∀ a0 a1 a2 a3 k, LeO (passepartoutref05_Bytes.f k a0 a1 a2 a3) (passepartoutref05_Bytes.f (k + 1) a0 a1 a2 a3) := by
 intro a0 a1 a2 a3 k
 obtain ⟨ih0, ih1⟩ := passepartoutref05_Bytes.mono_l k
 exact ih0 a0 a1 a2 a3
set_option maxHeartbeats 8000000 in
set_option maxRecDepth 100000 in
theorem passepartoutref05_Bytes.calls (k : Nat) : ∀ (a0_0 : Int) (A0_1 : Option Addr) (c0_1 : Nat) (l0_1 : List Int) (A0_2 : Option Addr) (c0_2 : Nat) (l0_2 : List (S31)) (a1 : Int) (r : Int) (w : World) (hr0_1 : Kd.C (Kd.int .u8) w A0_1 l0_1.length l0_1) (hc0_1 : l0_1.length ≤ c0_1) (hr0_2 : Kd.C k31 w A0_2 l0_2.length l0_2) (hc0_2 : l0_2.length ≤ c0_2) (h : passepartoutref05_Bytes.f k a0_0 l0_1 l0_2 a1 = some r),
  Calls Tryd.prog 34 #[.agg #[.int .u64 a0_0, .slice A0_1 l0_1.length c0_1, .slice A0_2 l0_2.length c0_2], .int .i64 a1] w fun e w' => e = .returned (.int .i64 r) ∧ Below w.heap.size w w' := by
 induction k using Nat.strongRecOn with
 | _ k ih =>
 intro a0_0 A0_1 c0_1 l0_1 A0_2 c0_2 l0_2 a1 r w hr0_1 hc0_1 hr0_2 hc0_2 h
 cases k with
 | zero => exact absurd h (by simp [passepartoutref05_Bytes.f])
 | succ k =>
 simp only [passepartoutref05_Bytes.f] at h
 have hu31 := Tryd.underlying31
 have HR0_1 := Aside0.mk hr0_1
 have HC0_1 := Aside0.mk hc0_1
 clear hr0_1 hc0_1
 have HR0_2 := Aside0.mk hr0_2
 have HC0_2 := Aside0.mk hc0_2
 clear hr0_2 hc0_2
 have HB := Aside0.mk (Below.refl w.heap.size w)
 have H : (passepartoutref05_Bytes.l0 k a1 (l0_1.length : Int) 0 a0_0 l0_1 l0_2) = some r := h
 clear h
 have H' := Aside0.mk H
 clear H
 go_enter Tryd.func34, Tryd.ntmps34
 go_wp2_with (first | ((with_reducible refine gate_dst (N := 2) rfl ?_); refine box_event ?hg (N := 2) ?hd (cs := #[.int .u64 a0_0, .slice A0_1 l0_1.length c0_1, .slice A0_2 l0_2.length c0_2]) (t := 31) ?hr ?_; (case hd => rfl); (case hg => rfl); (case hr => first | (go_simp; done) | (go_simp; rfl)); intro gb161 hg w3 hbox hb; have n0_ := Aside0.mk (below_step (by repeat (first | (with_reducible first | exact HB.out | apply below_alloc | apply pw_below_drewN | apply below_drew1) | exact HB.out)) hb); have n1_ := Aside0.mk (hbox); have n2_ := Aside0.mk ((by rw [hg]; exact (below_size (by repeat (first | (with_reducible first | exact HB.out | apply below_alloc | apply pw_below_drewN | apply below_drew1) | exact HB.out))) : w.heap.size ≤ gb161)); have n3_ := Aside0.mk ((by rw [hg]; exact (below_size (by repeat (first | (with_reducible first | exact HB.out | apply below_alloc | apply pw_below_drewN | apply below_drew1) | exact HB.out))) : w.heap.size ≤ gb161)); clear HB; have HB := n0_; have BK161 := n1_; have GW161 := n2_; have GE161 := n3_; clear n0_ n1_ n2_ n3_; clear hb hbox hg; have hcz4_0 : w3.cell? ⟨gb161, 0, none⟩ = some (.int .u64 a0_0) := (blk_cell BK161.out 0).trans rfl; have hcz4_1 : w3.cell? ⟨gb161, 1, none⟩ = some (.slice A0_1 l0_1.length c0_1) := (blk_cell BK161.out 1).trans rfl; have hcz4_2 : w3.cell? ⟨gb161, 2, none⟩ = some (.slice A0_2 l0_2.length c0_2) := (blk_cell BK161.out 2).trans rfl; have hfz4_0 := blk_frozen BK161.out 0; have hfz4_1 := blk_frozen BK161.out 1; have hfz4_2 := blk_frozen BK161.out 2))
 go_loopg [5, 6] k (fun kq v5 v6 w' => ∃ (x5_1 : Int) (x6_1 : Int), v5 = .int .i64 x5_1 ∧ v6 = .int .i64 x6_1 ∧ Aside0 (passepartoutref05_Bytes.l0 kq a1 x5_1 x6_1 a0_0 l0_1 l0_2 = some r) ∧ Aside0 (kq ≤ k) ∧ Aside0 (w'.heap[gb161]? = some (.cells #[.int .u64 a0_0, (.slice A0_1 l0_1.length c0_1), (.slice A0_2 l0_2.length c0_2)] 31 (0, 0))) ∧ Aside0 (Below w.heap.size w w'))
 case atStart => exact ⟨((l0_1.length : Int)), (0), (by first | rfl | (simp; done) | (simp [*]; done)), (by first | rfl | (simp; done) | (simp [*]; done)), H', ⟨Nat.le_refl _⟩, ⟨by (with_reducible repeat (first | refine blk_drewN ?_ _ | refine blk_drew ?_ | refine blk_alloc ?_ _)); exact BK161.out⟩, ⟨by repeat (first | (with_reducible first | exact HB.out | apply below_alloc | apply pw_below_drewN | apply below_drew1 | refine below_set ?_ GE161.out) | exact HB.out)⟩⟩
 case round =>
  clear H'
  try clear p2
  try clear c3
  try clear hcz4_0
  try clear hcz4_1
  try clear hcz4_2
  try clear hfz4_0
  try clear hfz4_1
  try clear hfz4_2
  obtain ⟨x5_1, x6_1, rfl, rfl, HA, HK1, BK161, HB⟩ := hrel
  cases gk with
  | zero => exact absurd HA.out (by simp [passepartoutref05_Bytes.l0])
  | succ k1 =>
   have H := HA.out
   clear HA
   simp only [passepartoutref05_Bytes.l0] at H
   by_cases c5 : x6_1 < (l0_2.length : Int)
   ·rw [if_pos c5] at H
    have c5b0 : decide (x6_1 < (l0_2.length : Int)) = true := decide_eq_true c5
    clear c5
    by_cases c6 : x5_1 ≤ a1
    ·rw [if_pos c6] at H
     have c6b0 : decide (x5_1 ≤ a1) = true := decide_eq_true c6
     clear c6
     by_cases c7 : 0 ≤ x6_1
     ·rw [if_pos c7] at H
      have c7b0 : decide (0 ≤ x6_1) = true := decide_eq_true c7
      clear c7
      replace H := Option.bind_eq_some_iff.mp H
      obtain ⟨t163, A80, H⟩ := H
      replace H : (passepartoutref05_Bytes.l0 k1 a1 (wrap64 (x5_1 + t163)) (wrap64 (x6_1 + 1)) a0_0 l0_1 l0_2) = some r := H
      have A8 := Aside0.mk A80
      clear A80
      have H' := Aside0.mk H
      clear H
      have hcz9_0 : wr.cell? ⟨gb161, 0, none⟩ = some (.int .u64 a0_0) := (blk_cell BK161.out 0).trans rfl
      have hcz9_1 : wr.cell? ⟨gb161, 1, none⟩ = some (.slice A0_1 l0_1.length c0_1) := (blk_cell BK161.out 1).trans rfl
      have hcz9_2 : wr.cell? ⟨gb161, 2, none⟩ = some (.slice A0_2 l0_2.length c0_2) := (blk_cell BK161.out 2).trans rfl
      have hfz9_0 := blk_frozen BK161.out 0
      have hfz9_1 := blk_frozen BK161.out 1
      have hfz9_2 := blk_frozen BK161.out 2
      have p162 : 0 ≤ (x6_1 : Int) := of_decide_eq_true (by first | (with_reducible assumption) | assumption)
      have q162 : x6_1 < (l0_2.length : Int) := of_decide_eq_true (by first | (with_reducible assumption) | assumption)
      obtain ⟨ad162, A162_1, c162_1, A162_2, c162_2, e162, hx162_0, hx162_1, hx162_2, hl162_1, hi162_1, hl162_2, hi162_2⟩ := at_T31 HR0_2.out x6_1 p162 q162
      cases e162
      replace hx162_0 := (HB.out.cell (World.block_lt_of_cell? w _ hx162_0)).trans hx162_0
      replace hx162_1 := (HB.out.cell (World.block_lt_of_cell? w _ hx162_1)).trans hx162_1
      replace hx162_2 := (HB.out.cell (World.block_lt_of_cell? w _ hx162_2)).trans hx162_2
      have HR162_1 := Aside0.mk hi162_1
      have HC162_1 := Aside0.mk hl162_1
      clear hi162_1 hl162_1
      have HR162_2 := Aside0.mk hi162_2
      have HC162_2 := Aside0.mk hl162_2
      clear hi162_2 hl162_2
      replace p162 := eq_true p162
      replace q162 := eq_true q162
      go_wp2_with (first | ((with_reducible refine gate_callee (f := 34) rfl ?_); refine goesL_ (some 31) rfl rfl Tryd.func34 (by kernel_rfl) rfl #[.agg #[.int .u64 ((rd_T31 l0_2 x6_1).f0), .slice A162_1 ((rd_T31 l0_2 x6_1).f1).length c162_1, .slice A162_2 ((rd_T31 l0_2 x6_1).f2).length c162_2], .int .i64 (wrap64 (a1 - x5_1))] rfl (by (try simp only [List.map_toArray, List.map_cons, List.map_nil]); first | done | rfl | (simp only [List.length_drop, List.length_take]; rfl)) ?_; (with_reducible refine (ih k1 (by have := HK1.out; omega) ((rd_T31 l0_2 x6_1).f0) _ _ ((rd_T31 l0_2 x6_1).f1) _ _ ((rd_T31 l0_2 x6_1).f2) (wrap64 (a1 - x5_1)) t163 _ ?side1 ?side2 ?side3 ?side4 A8.out).mono ?_); (case side1 => repeat (first | exact (Kd.C_below HR162_1.out HB.out) | (with_reducible refine Kd.C_alloc ?_ _) | (with_reducible refine Kd.C_drewN ?_ _) | (with_reducible refine Kd.C_drew ?_))); (case side2 => exact HC162_1.out); (case side3 => repeat (first | exact (Kd.C_below HR162_2.out HB.out) | (with_reducible refine Kd.C_alloc ?_ _) | (with_reducible refine Kd.C_drewN ?_ _) | (with_reducible refine Kd.C_drew ?_))); (case side4 => exact HC162_2.out); rintro e w10 ⟨rfl, hb⟩; refine ⟨_, rfl, ?_⟩; have n0_ := Aside0.mk (blk_below (g := gb161) (o := .cells #[.int .u64 a0_0, .slice A0_1 l0_1.length c0_1, .slice (some ad162) l0_2.length c0_2] 31 (0, 0)) (by (with_reducible repeat (first | refine blk_drewN ?_ _ | refine blk_drew ?_ | refine blk_alloc ?_ _)); exact BK161.out) hb); have n1_ := Aside0.mk (below_step (by repeat (first | (with_reducible first | exact HB.out | apply below_alloc | apply pw_below_drewN | apply below_drew1 | refine below_set ?_ GE161.out) | exact HB.out)) hb); clear BK161; clear HB; have BK161 := n0_; have HB := n1_; clear n0_ n1_; (try clear hb); (try clear hb2); (try clear hk); (try clear hi)))
      go_roundg k1
      case measure => have := HK1.out; omega
      case rel => exact ⟨(wrap64 (x5_1 + t163)), (wrap64 (x6_1 + 1)), (by first | rfl | (simp; done) | (simp [*]; done)), (by first | rfl | (simp; done) | (simp [*]; done)), H', ⟨by have := HK1.out; omega⟩, ⟨by (with_reducible repeat (first | refine blk_drewN ?_ _ | refine blk_drew ?_ | refine blk_alloc ?_ _)); exact BK161.out⟩, ⟨by repeat (first | (with_reducible first | exact HB.out | apply below_alloc | apply pw_below_drewN | apply below_drew1 | refine below_set ?_ GE161.out) | exact HB.out)⟩⟩
     ·rw [if_neg c7] at H
      exact absurd H (by simp)
    ·rw [if_neg c6] at H
     have c6b0 : decide (x5_1 ≤ a1) = false := decide_eq_false c6
     clear c6
     obtain rfl := Option.some.inj H
     have hcz11_0 : wr.cell? ⟨gb161, 0, none⟩ = some (.int .u64 a0_0) := (blk_cell BK161.out 0).trans rfl
     have hcz11_1 : wr.cell? ⟨gb161, 1, none⟩ = some (.slice A0_1 l0_1.length c0_1) := (blk_cell BK161.out 1).trans rfl
     have hcz11_2 : wr.cell? ⟨gb161, 2, none⟩ = some (.slice A0_2 l0_2.length c0_2) := (blk_cell BK161.out 2).trans rfl
     have hfz11_0 := blk_frozen BK161.out 0
     have hfz11_1 := blk_frozen BK161.out 1
     have hfz11_2 := blk_frozen BK161.out 2
     go_wp2
     go_ret
     exact ⟨by first | rfl | (simp [errW_none, errW_some] <;> rfl) | (simp [*, errW_none, errW_some] <;> rfl), by repeat (first | (with_reducible first | exact HB.out | apply below_alloc | apply pw_below_drewN | apply below_drew1 | refine below_set ?_ GE161.out) | exact HB.out)⟩
   ·rw [if_neg c5] at H
    have c5b0 : decide (x6_1 < (l0_2.length : Int)) = false := decide_eq_false c5
    clear c5
    obtain rfl := Option.some.inj H
    have hcz12_0 : wr.cell? ⟨gb161, 0, none⟩ = some (.int .u64 a0_0) := (blk_cell BK161.out 0).trans rfl
    have hcz12_1 : wr.cell? ⟨gb161, 1, none⟩ = some (.slice A0_1 l0_1.length c0_1) := (blk_cell BK161.out 1).trans rfl
    have hcz12_2 : wr.cell? ⟨gb161, 2, none⟩ = some (.slice A0_2 l0_2.length c0_2) := (blk_cell BK161.out 2).trans rfl
    have hfz12_0 := blk_frozen BK161.out 0
    have hfz12_1 := blk_frozen BK161.out 1
    have hfz12_2 := blk_frozen BK161.out 2
    go_wp2
    go_ret
    exact ⟨by first | rfl | (simp [errW_none, errW_some] <;> rfl) | (simp [*, errW_none, errW_some] <;> rfl), by repeat (first | (with_reducible first | exact HB.out | apply below_alloc | apply pw_below_drewN | apply below_drew1 | refine below_set ?_ GE161.out) | exact HB.out)⟩

end Go.Proofs.YtdhnfccgojgehaaDoor.QP
