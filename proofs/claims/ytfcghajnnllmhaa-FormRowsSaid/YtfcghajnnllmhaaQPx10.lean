-- Written by a program of this session (wip/tools/pw.py) out of the translation. Lean checks it.
import Derived.Test.YtfcghajnnllmhaaQPx0
import Derived.Test.YtfcghajnnllmhaaQPx4
import Derived.Test.YtfcghajnnllmhaaQPx6
import Derived.Test.YtfcghajnnllmhaaQPx8
import Derived.Test.YtfcghajnnllmhaaQPx9
namespace Go.Proofs.Ytfcghajnnllmhaa.QP
open Go.RowKit Go.Proofs.YtfcghajnnllmhaaW.PrintWords Go.Proofs.YtfcghajnnllmhaaW.PrintLast Go.Proofs.YtfcghajnnllmhaaW.PrintMore
attribute [local go_sem] max2_int min2_int max_two min_two max_three min_three max_four min_four   -- for this text's walks alone
set_option linter.unusedVariables false
set_option linter.unusedSimpArgs false

/-! ### passepartoutref04_check: function 46 -/
mutual
def passepartoutref04_check.l0 : Nat → List (S27) → Int → Int → Int → Int → Int → Int → List (S27) → Option (Int)
  | 0, _, _, _, _, _, _, _, _ => none
  | k + 1, x4, x5, x150000, x150001, x150002, x150003, x150004, x150005 => if x5 < (x4.length : Int) then (if 0 ≤ x5 then ((passepartoutref04_check.f k ((rd_T27 x4 x5).f0) ((rd_T27 x4 x5).f1) ((rd_T27 x4 x5).f2) ((rd_T27 x4 x5).f3) ((rd_T27 x4 x5).f4) ((rd_T27 x4 x5).f5)).bind fun t155 => (if t155 = 0 then (passepartoutref04_check.l0 k x4 (wrap64 (x5 + 1)) x150000 x150001 x150002 x150003 x150004 x150005) else (some t155))) else (none)) else (passepartoutref04_check.l1 k x4 0 x150000 x150001 x150002 x150003 x150004 x150005)
def passepartoutref04_check.l1 : Nat → List (S27) → Int → Int → Int → Int → Int → Int → List (S27) → Option (Int)
  | 0, _, _, _, _, _, _, _, _ => none
  | k + 1, x4, x6, x150000, x150001, x150002, x150003, x150004, x150005 => if x6 < (x4.length : Int) then (if 0 ≤ x6 then ((passepartoutref04_Open.f k ((rd_T27 x4 x6).f0) ((rd_T27 x4 x6).f1) ((rd_T27 x4 x6).f2) ((rd_T27 x4 x6).f3) ((rd_T27 x4 x6).f4) ((rd_T27 x4 x6).f5)).bind fun t157 => (if t157 = true then (if x150000 = 2 then (some 15) else (if (wrap64 (x6 + 1)) < (x4.length : Int) then (some 15) else (passepartoutref04_check.l1 k x4 (wrap64 (x6 + 1)) x150000 x150001 x150002 x150003 x150004 x150005))) else (passepartoutref04_check.l1 k x4 (wrap64 (x6 + 1)) x150000 x150001 x150002 x150003 x150004 x150005))) else (none)) else (if x150000 = 2 then (if 0 < (x4.length : Int) then ((passepartoutref04_Least.f k ((rd_T27 x4 0).f0) ((rd_T27 x4 0).f1) ((rd_T27 x4 0).f2) ((rd_T27 x4 0).f3) ((rd_T27 x4 0).f4) ((rd_T27 x4 0).f5)).bind fun t159 => (if t159 = 0 then (some 15) else (some 0))) else (none)) else (some 0))
def passepartoutref04_check.f : Nat → Int → Int → Int → Int → Int → List (S27) → Option (Int)
  | 0, _, _, _, _, _, _ => none
  | k + 1, a0_0, a0_1, a0_2, a0_3, a0_4, l0_5 => (passepartoutref04_own.f k a0_0 a0_1 a0_2 a0_3 a0_4 l0_5).bind fun t150 => (if t150 = 0 then ((passepartoutref04_parts.f a0_0 a0_1 a0_2 a0_3 a0_4 l0_5).bind fun t151 => (passepartoutref04_check.l0 k t151 0 a0_0 a0_1 a0_2 a0_3 a0_4 l0_5)) else (some t150))
end
theorem passepartoutref04_check.mono_l : ∀ k, (∀ y0 y1 y2 y3 y4 y5, LeO (passepartoutref04_check.f k y0 y1 y2 y3 y4 y5) (passepartoutref04_check.f (k + 1) y0 y1 y2 y3 y4 y5)) ∧ (∀ y0 y1 y2 y3 y4 y5 y6 y7, LeO (passepartoutref04_check.l0 k y0 y1 y2 y3 y4 y5 y6 y7) (passepartoutref04_check.l0 (k + 1) y0 y1 y2 y3 y4 y5 y6 y7)) ∧ (∀ y0 y1 y2 y3 y4 y5 y6 y7, LeO (passepartoutref04_check.l1 k y0 y1 y2 y3 y4 y5 y6 y7) (passepartoutref04_check.l1 (k + 1) y0 y1 y2 y3 y4 y5 y6 y7))
  | 0 => ⟨fun _ _ _ _ _ _ r h => by simp [passepartoutref04_check.f] at h, fun _ _ _ _ _ _ _ _ r h => by simp [passepartoutref04_check.l0] at h, fun _ _ _ _ _ _ _ _ r h => by simp [passepartoutref04_check.l1] at h⟩
  | k + 1 => by
    obtain ⟨ih0, ih1, ih2⟩ := passepartoutref04_check.mono_l k
    refine ⟨?_, ?_, ?_⟩
    · intro y0 y1 y2 y3 y4 y5
      unfold passepartoutref04_check.f
      repeat' first
      | (with_reducible exact ih0 _ _ _ _ _ _)
      | (with_reducible exact ih1 _ _ _ _ _ _ _ _)
      | (with_reducible exact ih2 _ _ _ _ _ _ _ _)
      | (with_reducible exact passepartoutref04_Least.mono _ _ _ _ _ _ _)
      | (with_reducible exact passepartoutref04_Open.mono _ _ _ _ _ _ _)
      | (with_reducible exact passepartoutref04_own.mono _ _ _ _ _ _ _)
      | (with_reducible exact LeO.refl _)
      | (with_reducible exact LeO.none _)
      | (with_reducible refine LeO.ite ?_ ?_)
      | (with_reducible refine LeO.bind ?_ (fun _ => ?_))
      | exact ih0 _ _ _ _ _ _
      | exact ih1 _ _ _ _ _ _ _ _
      | exact ih2 _ _ _ _ _ _ _ _
      | exact passepartoutref04_Least.mono _ _ _ _ _ _ _
      | exact passepartoutref04_Open.mono _ _ _ _ _ _ _
      | exact passepartoutref04_own.mono _ _ _ _ _ _ _
      | exact LeO.none _
      | refine LeO.ite ?_ ?_
      | refine LeO.bind ?_ (fun _ => ?_)
    · intro y0 y1 y2 y3 y4 y5 y6 y7
      unfold passepartoutref04_check.l0
      repeat' first
      | (with_reducible exact ih0 _ _ _ _ _ _)
      | (with_reducible exact ih1 _ _ _ _ _ _ _ _)
      | (with_reducible exact ih2 _ _ _ _ _ _ _ _)
      | (with_reducible exact passepartoutref04_Least.mono _ _ _ _ _ _ _)
      | (with_reducible exact passepartoutref04_Open.mono _ _ _ _ _ _ _)
      | (with_reducible exact passepartoutref04_own.mono _ _ _ _ _ _ _)
      | (with_reducible exact LeO.refl _)
      | (with_reducible exact LeO.none _)
      | (with_reducible refine LeO.ite ?_ ?_)
      | (with_reducible refine LeO.bind ?_ (fun _ => ?_))
      | exact ih0 _ _ _ _ _ _
      | exact ih1 _ _ _ _ _ _ _ _
      | exact ih2 _ _ _ _ _ _ _ _
      | exact passepartoutref04_Least.mono _ _ _ _ _ _ _
      | exact passepartoutref04_Open.mono _ _ _ _ _ _ _
      | exact passepartoutref04_own.mono _ _ _ _ _ _ _
      | exact LeO.none _
      | refine LeO.ite ?_ ?_
      | refine LeO.bind ?_ (fun _ => ?_)
    · intro y0 y1 y2 y3 y4 y5 y6 y7
      unfold passepartoutref04_check.l1
      repeat' first
      | (with_reducible exact ih0 _ _ _ _ _ _)
      | (with_reducible exact ih1 _ _ _ _ _ _ _ _)
      | (with_reducible exact ih2 _ _ _ _ _ _ _ _)
      | (with_reducible exact passepartoutref04_Least.mono _ _ _ _ _ _ _)
      | (with_reducible exact passepartoutref04_Open.mono _ _ _ _ _ _ _)
      | (with_reducible exact passepartoutref04_own.mono _ _ _ _ _ _ _)
      | (with_reducible exact LeO.refl _)
      | (with_reducible exact LeO.none _)
      | (with_reducible refine LeO.ite ?_ ?_)
      | (with_reducible refine LeO.bind ?_ (fun _ => ?_))
      | exact ih0 _ _ _ _ _ _
      | exact ih1 _ _ _ _ _ _ _ _
      | exact ih2 _ _ _ _ _ _ _ _
      | exact passepartoutref04_Least.mono _ _ _ _ _ _ _
      | exact passepartoutref04_Open.mono _ _ _ _ _ _ _
      | exact passepartoutref04_own.mono _ _ _ _ _ _ _
      | exact LeO.none _
      | refine LeO.ite ?_ ?_
      | refine LeO.bind ?_ (fun _ => ?_)
theorem passepartoutref04_check.mono : ∀ a0 a1 a2 a3 a4 a5 k, LeO (passepartoutref04_check.f k a0 a1 a2 a3 a4 a5) (passepartoutref04_check.f (k + 1) a0 a1 a2 a3 a4 a5) := by
  intro a0 a1 a2 a3 a4 a5 k
  obtain ⟨ih0, ih1, ih2⟩ := passepartoutref04_check.mono_l k
  exact ih0 a0 a1 a2 a3 a4 a5
set_option maxHeartbeats 8000000 in
set_option maxRecDepth 100000 in
theorem passepartoutref04_check.calls (k : Nat) : ∀ (a0_0 : Int) (a0_1 : Int) (a0_2 : Int) (a0_3 : Int) (a0_4 : Int) (A0_5 : Option Addr) (c0_5 : Nat) (l0_5 : List (S27)) (r : Int) (w : World) (hr0_5 : Kd.C k27 w A0_5 l0_5.length l0_5) (hc0_5 : l0_5.length ≤ c0_5) (h : passepartoutref04_check.f k a0_0 a0_1 a0_2 a0_3 a0_4 l0_5 = some r),
    Calls Try.prog 46 #[.agg #[.int .i64 a0_0, .int .i64 a0_1, .int .i64 a0_2, .int .i64 a0_3, .int .i64 a0_4, .slice A0_5 l0_5.length c0_5]] w fun e w' => e = .returned (.int .i64 r) ∧ Below w.heap.size w w' := by
  induction k using Nat.strongRecOn with
  | _ k ih =>
  intro a0_0 a0_1 a0_2 a0_3 a0_4 A0_5 c0_5 l0_5 r w hr0_5 hc0_5 h
  cases k with
  | zero => exact absurd h (by simp [passepartoutref04_check.f])
  | succ k =>
  simp only [passepartoutref04_check.f] at h
  have hu27 := Try.underlying27
  have HR0_5 := Aside0.mk hr0_5
  have HC0_5 := Aside0.mk hc0_5
  clear hr0_5 hc0_5
  have HB := Aside0.mk (Below.refl w.heap.size w)
  have H : ((passepartoutref04_own.f k a0_0 a0_1 a0_2 a0_3 a0_4 l0_5).bind fun t150 => (if t150 = 0 then ((passepartoutref04_parts.f a0_0 a0_1 a0_2 a0_3 a0_4 l0_5).bind fun t151 => (passepartoutref04_check.l0 k t151 0 a0_0 a0_1 a0_2 a0_3 a0_4 l0_5)) else (some t150))) = some r := h
  clear h
  replace H := Option.bind_eq_some_iff.mp H
  obtain ⟨t150, A20, H⟩ := H
  replace H : (if t150 = 0 then ((passepartoutref04_parts.f a0_0 a0_1 a0_2 a0_3 a0_4 l0_5).bind fun t151 => (passepartoutref04_check.l0 k t151 0 a0_0 a0_1 a0_2 a0_3 a0_4 l0_5)) else (some t150)) = some r := H
  have A2 := Aside0.mk A20
  clear A20
  by_cases c3 : t150 = 0
  · rw [if_pos c3] at H
    have c3b0 : (t150 == 0) = true := beq_iff_eq.mpr c3
    have c3b1 : (t150 != 0) = false := bne_eq_false_iff_eq.mpr c3
    clear c3
    replace H := Option.bind_eq_some_iff.mp H
    obtain ⟨t151, A40, H⟩ := H
    replace H : (passepartoutref04_check.l0 k t151 0 a0_0 a0_1 a0_2 a0_3 a0_4 l0_5) = some r := H
    have A4 := Aside0.mk A40
    clear A40
    have H' := Aside0.mk H
    clear H
    go_enter Try.func46, Try.ntmps46
    go_wp2_with (first | ((with_reducible refine gate_dst (N := 1) rfl ?_); (try (refine gate_guard (by rfl) ?_; dsimp only)); refine box_event ?hg (N := 1) ?hd (cs := #[.int .i64 a0_0, .int .i64 a0_1, .int .i64 a0_2, .int .i64 a0_3, .int .i64 a0_4, .slice A0_5 l0_5.length c0_5]) (t := 27) ?hr ?_; (case hd => rfl); (case hg => rfl); (case hr => first | (go_simp; done) | (go_simp; rfl)); intro gb149 hg w5 hbox hb; have n0_ := Aside0.mk (below_step (by repeat (first | (with_reducible first | exact HB.out | apply below_alloc | apply pw_below_drewN | apply below_drew1) | exact HB.out)) hb); have n1_ := Aside0.mk (hbox); have n2_ := Aside0.mk ((by rw [hg]; exact (below_size (by repeat (first | (with_reducible first | exact HB.out | apply below_alloc | apply pw_below_drewN | apply below_drew1) | exact HB.out))) : w.heap.size ≤ gb149)); have n3_ := Aside0.mk ((by rw [hg]; exact (below_size (by repeat (first | (with_reducible first | exact HB.out | apply below_alloc | apply pw_below_drewN | apply below_drew1) | exact HB.out))) : w.heap.size ≤ gb149)); clear HB; have HB := n0_; have BK149 := n1_; have GW149 := n2_; have GE149 := n3_; clear n0_ n1_ n2_ n3_; clear hb hbox hg; have hcz6_0 : w5.cell? ⟨gb149, 0, none⟩ = some (.int .i64 a0_0) := (blk_cell BK149.out 0).trans rfl; have hcz6_1 : w5.cell? ⟨gb149, 1, none⟩ = some (.int .i64 a0_1) := (blk_cell BK149.out 1).trans rfl; have hcz6_2 : w5.cell? ⟨gb149, 2, none⟩ = some (.int .i64 a0_2) := (blk_cell BK149.out 2).trans rfl; have hcz6_3 : w5.cell? ⟨gb149, 3, none⟩ = some (.int .i64 a0_3) := (blk_cell BK149.out 3).trans rfl; have hcz6_4 : w5.cell? ⟨gb149, 4, none⟩ = some (.int .i64 a0_4) := (blk_cell BK149.out 4).trans rfl; have hcz6_5 : w5.cell? ⟨gb149, 5, none⟩ = some (.slice A0_5 l0_5.length c0_5) := (blk_cell BK149.out 5).trans rfl; have hfz6_0 := blk_frozen BK149.out 0; have hfz6_1 := blk_frozen BK149.out 1; have hfz6_2 := blk_frozen BK149.out 2; have hfz6_3 := blk_frozen BK149.out 3; have hfz6_4 := blk_frozen BK149.out 4; have hfz6_5 := blk_frozen BK149.out 5) | ((with_reducible refine gate_callee (f := 64) rfl ?_); refine goesL_ (some 9) rfl rfl Try.func64 (by kernel_rfl) rfl #[.agg #[.int .i64 a0_0, .int .i64 a0_1, .int .i64 a0_2, .int .i64 a0_3, .int .i64 a0_4, .slice A0_5 l0_5.length c0_5]] rfl (by (try simp only [List.map_toArray, List.map_cons, List.map_nil]); first | done | rfl | (simp only [List.length_drop, List.length_take]; rfl)) ?_; (with_reducible refine (passepartoutref04_own.calls k a0_0 a0_1 a0_2 a0_3 a0_4 _ _ l0_5 t150 _ ?side1 ?side2 A2.out).mono ?_); (case side1 => repeat (first | exact (Kd.C_below HR0_5.out HB.out) | (with_reducible refine Kd.C_alloc ?_ _) | (with_reducible refine Kd.C_drewN ?_ _) | (with_reducible refine Kd.C_drew ?_))); (case side2 => exact HC0_5.out); rintro e w7 ⟨rfl, hb⟩; refine ⟨_, rfl, ?_⟩; have n0_ := Aside0.mk (blk_below (g := gb149) (o := .cells #[.int .i64 a0_0, .int .i64 a0_1, .int .i64 a0_2, .int .i64 a0_3, .int .i64 a0_4, .slice A0_5 l0_5.length c0_5] 27 (0, 0)) (by (with_reducible repeat (first | refine blk_drewN ?_ _ | refine blk_drew ?_ | refine blk_alloc ?_ _)); exact BK149.out) hb); have n1_ := Aside0.mk (below_step (by repeat (first | (with_reducible first | exact HB.out | apply below_alloc | apply pw_below_drewN | apply below_drew1 | refine below_set ?_ GE149.out) | exact HB.out)) hb); clear BK149; clear HB; have BK149 := n0_; have HB := n1_; clear n0_ n1_; (try clear hb); (try clear hb2); (try clear hk); (try clear hi); have hcz8_0 : w7.cell? ⟨gb149, 0, none⟩ = some (.int .i64 a0_0) := (blk_cell BK149.out 0).trans rfl; have hcz8_1 : w7.cell? ⟨gb149, 1, none⟩ = some (.int .i64 a0_1) := (blk_cell BK149.out 1).trans rfl; have hcz8_2 : w7.cell? ⟨gb149, 2, none⟩ = some (.int .i64 a0_2) := (blk_cell BK149.out 2).trans rfl; have hcz8_3 : w7.cell? ⟨gb149, 3, none⟩ = some (.int .i64 a0_3) := (blk_cell BK149.out 3).trans rfl; have hcz8_4 : w7.cell? ⟨gb149, 4, none⟩ = some (.int .i64 a0_4) := (blk_cell BK149.out 4).trans rfl; have hcz8_5 : w7.cell? ⟨gb149, 5, none⟩ = some (.slice A0_5 l0_5.length c0_5) := (blk_cell BK149.out 5).trans rfl; have hfz8_0 := blk_frozen BK149.out 0; have hfz8_1 := blk_frozen BK149.out 1; have hfz8_2 := blk_frozen BK149.out 2; have hfz8_3 := blk_frozen BK149.out 3; have hfz8_4 := blk_frozen BK149.out 4; have hfz8_5 := blk_frozen BK149.out 5) | ((with_reducible refine gate_callee (f := 47) rfl ?_); refine goesL_ (some 14) rfl rfl Try.func47 (by kernel_rfl) rfl #[.agg #[.int .i64 a0_0, .int .i64 a0_1, .int .i64 a0_2, .int .i64 a0_3, .int .i64 a0_4, .slice A0_5 l0_5.length c0_5]] rfl (by (try simp only [List.map_toArray, List.map_cons, List.map_nil]); first | done | rfl | (simp only [List.length_drop, List.length_take]; rfl)) ?_; (with_reducible refine (passepartoutref04_parts.calls a0_0 a0_1 a0_2 a0_3 a0_4 (fun k_ => k_ < w.heap.size) _ _ l0_5 t151 _ ?side1 A4.out).mono ?_); (case side1 => exact Kd.V_mk HC0_5.out (Kd.F_below (Kd.C_F k27_heap HR0_5.out) (by repeat (first | (with_reducible first | exact HB.out | apply below_alloc | apply pw_below_drewN | apply below_drew1 | refine below_set ?_ GE149.out) | exact HB.out)))); rintro e w9 ⟨v152, rfl, ho0, hb⟩; refine ⟨_, rfl, ?_⟩; have n0_ := Aside0.mk (Kd.V_lower (Kd.V_mono (ok' := fun k_ => k_ ≠ gb149) ho0 (fun k_ hk_ => Or.elim hk_ (fun hs_ => fun e_ => Nat.not_le.2 hs_ (by rw [e_]; exact GW149.out)) (fun hn_ => (Kd.freshB (g := gb149) (o := .cells #[.int .i64 a0_0, .int .i64 a0_1, .int .i64 a0_2, .int .i64 a0_3, .int .i64 a0_4, .slice A0_5 l0_5.length c0_5] 27 (0, 0)) (by (with_reducible repeat (first | refine blk_drewN ?_ _ | refine blk_drew ?_ | refine blk_alloc ?_ _)); exact BK149.out) k_ hn_)))) (below_size (by repeat (first | (with_reducible first | exact HB.out | apply below_alloc | apply pw_below_drewN | apply below_drew1 | refine below_set ?_ GE149.out) | exact HB.out)))); have n1_ := Aside0.mk (blk_below (g := gb149) (o := .cells #[.int .i64 a0_0, .int .i64 a0_1, .int .i64 a0_2, .int .i64 a0_3, .int .i64 a0_4, .slice A0_5 l0_5.length c0_5] 27 (0, 0)) (by (with_reducible repeat (first | refine blk_drewN ?_ _ | refine blk_drew ?_ | refine blk_alloc ?_ _)); exact BK149.out) hb); have n2_ := Aside0.mk (below_step (by repeat (first | (with_reducible first | exact HB.out | apply below_alloc | apply pw_below_drewN | apply below_drew1 | refine below_set ?_ GE149.out) | exact HB.out)) hb); clear BK149; clear HB; have HO153 := n0_; have BK149 := n1_; have HB := n2_; clear n0_ n1_ n2_; (try clear hb); (try clear hb2); (try clear hk); (try clear hi); (try clear ho0)))
    go_loopg [5] k (fun kq v5 w' => ∃ (x5_1 : Int), v5 = .int .i64 x5_1 ∧ Aside0 (passepartoutref04_check.l0 kq t151 x5_1 a0_0 a0_1 a0_2 a0_3 a0_4 l0_5 = some r) ∧ Aside0 (kq ≤ k) ∧ Aside0 (Kd.V k27 27 w' w.heap.size (fun k_ => k_ ≠ gb149) v152 t151) ∧ Aside0 (w'.heap[gb149]? = some (.cells #[.int .i64 a0_0, .int .i64 a0_1, .int .i64 a0_2, .int .i64 a0_3, .int .i64 a0_4, (.slice A0_5 l0_5.length c0_5)] 27 (0, 0))) ∧ Aside0 (Below w.heap.size w w'))
    case atStart => exact ⟨(0), (by first | rfl | (simp; done) | (simp [*]; done)), H', ⟨Nat.le_refl _⟩, ⟨by (with_reducible repeat (first | apply Kd.V_alloc | apply Kd.V_drewN | apply Kd.V_drew)); exact HO153.out⟩, ⟨by (with_reducible repeat (first | refine blk_drewN ?_ _ | refine blk_drew ?_ | refine blk_alloc ?_ _)); exact BK149.out⟩, ⟨by repeat (first | (with_reducible first | exact HB.out | apply below_alloc | apply pw_below_drewN | apply below_drew1 | refine below_set ?_ GE149.out) | exact HB.out)⟩⟩
    case round =>
      clear H'
      try clear p2
      try clear c3
      try clear c3b0
      try clear c3b1
      try clear c4
      try clear c6
      try clear hcz6_0
      try clear hcz6_1
      try clear hcz6_2
      try clear hcz6_3
      try clear hcz6_4
      try clear hcz6_5
      try clear hcz8_0
      try clear hcz8_1
      try clear hcz8_2
      try clear hcz8_3
      try clear hcz8_4
      try clear hcz8_5
      try clear hfz6_0
      try clear hfz6_1
      try clear hfz6_2
      try clear hfz6_3
      try clear hfz6_4
      try clear hfz6_5
      try clear hfz8_0
      try clear hfz8_1
      try clear hfz8_2
      try clear hfz8_3
      try clear hfz8_4
      try clear hfz8_5
      obtain ⟨x5_1, rfl, HA, HK1, HO_4, BK149, HB⟩ := hrel
      cases gk with
      | zero => exact absurd HA.out (by simp [passepartoutref04_check.l0])
      | succ k1 =>
        have H := HA.out
        clear HA
        simp only [passepartoutref04_check.l0] at H
        by_cases c10 : x5_1 < (t151.length : Int)
        · rw [if_pos c10] at H
          have c10b0 : decide (x5_1 < (t151.length : Int)) = true := decide_eq_true c10
          clear c10
          by_cases c11 : 0 ≤ x5_1
          · rw [if_pos c11] at H
            have c11b0 : decide (0 ≤ x5_1) = true := decide_eq_true c11
            clear c11
            replace H := Option.bind_eq_some_iff.mp H
            obtain ⟨t155, A120, H⟩ := H
            replace H : (if t155 = 0 then (passepartoutref04_check.l0 k1 t151 (wrap64 (x5_1 + 1)) a0_0 a0_1 a0_2 a0_3 a0_4 l0_5) else (some t155)) = some r := H
            have A12 := Aside0.mk A120
            clear A120
            by_cases c13 : t155 = 0
            · rw [if_pos c13] at H
              have c13b0 : (t155 == 0) = true := beq_iff_eq.mpr c13
              have c13b1 : (t155 != 0) = false := bne_eq_false_iff_eq.mpr c13
              clear c13
              have H' := Aside0.mk H
              clear H
              obtain ⟨Ao14, co14, eo14⟩ := Kd.V_slice HO_4.out
              subst eo14
              have p154 : 0 ≤ (x5_1 : Int) := of_decide_eq_true (by first | (with_reducible assumption) | assumption)
              have q154 : x5_1 < (t151.length : Int) := of_decide_eq_true (by first | (with_reducible assumption) | assumption)
              obtain ⟨ad154, A154_5, c154_5, e154, hx154_0, hx154_1, hx154_2, hx154_3, hx154_4, hx154_5, hl154_5, hi154_5⟩ := at_T27 (Kd.V_reads' HO_4.out).2.2 x5_1 p154 q154
              cases e154
              obtain ⟨ce154, hce154, hMe154, hcc154⟩ := Kd.V_get HO_4.out z27 x5_1 p154 (by first | exact q154 | exact of_decide_eq_true (by first | (with_reducible assumption) | assumption) | (have e_ := (Kd.V_reads' HO_4.out).1; omega))
              obtain ⟨ua154_5, uc154_5, rfl, ul154_5, ge154_5⟩ := k27_openF hMe154
              have hv154_5 := hcc154 5 _ rfl
              rw [add_field _ _ 5 (by omega)] at hv154_5
              replace hv154_5 := Option.some.inj (hv154_5.symm.trans hx154_5)
              injection hv154_5 with hva_ hvn_ hvc_
              rw [hva_] at ge154_5
              rw [hvc_] at ul154_5
              have HL154_5 := Aside0.mk (show Kd.V k27 27 _ w.heap.size _ _ ((rd_T27 t151 x5_1).f5) from Kd.V_mk ul154_5 ge154_5)
              clear hva_ hvn_ hvc_ ge154_5 ul154_5
              clear hcc154 hce154
              have HR154_5 := Aside0.mk hi154_5
              have HC154_5 := Aside0.mk hl154_5
              clear hi154_5 hl154_5
              replace p154 := eq_true p154
              replace q154 := eq_true q154
              go_wp2_with (first | ((with_reducible refine gate_callee (f := 46) rfl ?_); refine goesL_ (some 25) rfl rfl Try.func46 (by kernel_rfl) rfl #[.agg #[.int .i64 ((rd_T27 t151 x5_1).f0), .int .i64 ((rd_T27 t151 x5_1).f1), .int .i64 ((rd_T27 t151 x5_1).f2), .int .i64 ((rd_T27 t151 x5_1).f3), .int .i64 ((rd_T27 t151 x5_1).f4), .slice A154_5 ((rd_T27 t151 x5_1).f5).length c154_5]] rfl (by (try simp only [List.map_toArray, List.map_cons, List.map_nil]); first | done | rfl | (simp only [List.length_drop, List.length_take]; rfl)) ?_; (with_reducible refine (ih k1 (by have := HK1.out; omega) ((rd_T27 t151 x5_1).f0) ((rd_T27 t151 x5_1).f1) ((rd_T27 t151 x5_1).f2) ((rd_T27 t151 x5_1).f3) ((rd_T27 t151 x5_1).f4) _ _ ((rd_T27 t151 x5_1).f5) t155 _ ?side1 ?side2 A12.out).mono ?_); (case side1 => repeat (first | exact (by repeat (first | (with_reducible exact HR154_5.out) | (with_reducible refine Kd.C_alloc ?_ _) | (with_reducible refine Kd.C_drewN ?_ _) | (with_reducible refine Kd.C_drew ?_) | exact HR154_5.out)) | (with_reducible refine Kd.C_alloc ?_ _) | (with_reducible refine Kd.C_drewN ?_ _) | (with_reducible refine Kd.C_drew ?_))); (case side2 => exact HC154_5.out); rintro e w15 ⟨rfl, hb⟩; refine ⟨_, rfl, ?_⟩; have n0_ := Aside0.mk (Kd.V_below (by (with_reducible repeat (first | apply Kd.V_alloc | apply Kd.V_drewN | apply Kd.V_drew)); exact HO_4.out) hb); have n1_ := Aside0.mk (Kd.V_below (by (with_reducible repeat (first | apply Kd.V_alloc | apply Kd.V_drewN | apply Kd.V_drew)); exact HL154_5.out) hb); have n2_ := Aside0.mk (blk_below (g := gb149) (o := .cells #[.int .i64 a0_0, .int .i64 a0_1, .int .i64 a0_2, .int .i64 a0_3, .int .i64 a0_4, .slice A0_5 l0_5.length c0_5] 27 (0, 0)) (by (with_reducible repeat (first | refine blk_drewN ?_ _ | refine blk_drew ?_ | refine blk_alloc ?_ _)); exact BK149.out) hb); have n3_ := Aside0.mk (Kd.C_below (by repeat (first | (with_reducible exact HR154_5.out) | (with_reducible refine Kd.C_alloc ?_ _) | (with_reducible refine Kd.C_drewN ?_ _) | (with_reducible refine Kd.C_drew ?_) | exact HR154_5.out)) hb); have n4_ := Aside0.mk (below_step (by repeat (first | (with_reducible first | exact HB.out | apply below_alloc | apply pw_below_drewN | apply below_drew1 | refine below_set ?_ GE149.out) | exact HB.out)) hb); clear HO_4; clear HL154_5; clear BK149; clear HR154_5; clear HB; have HO_4 := n0_; have HL154_5 := n1_; have BK149 := n2_; have HR154_5 := n3_; have HB := n4_; clear n0_ n1_ n2_ n3_ n4_; (try clear hb); (try clear hb2); (try clear hk); (try clear hi)))
              go_roundg k1
              case measure => have := HK1.out; omega
              case rel => exact ⟨(wrap64 (x5_1 + 1)), (by first | rfl | (simp; done) | (simp [*]; done)), H', ⟨by have := HK1.out; omega⟩, ⟨by (with_reducible repeat (first | apply Kd.V_alloc | apply Kd.V_drewN | apply Kd.V_drew)); exact HO_4.out⟩, ⟨by (with_reducible repeat (first | refine blk_drewN ?_ _ | refine blk_drew ?_ | refine blk_alloc ?_ _)); exact BK149.out⟩, ⟨by repeat (first | (with_reducible first | exact HB.out | apply below_alloc | apply pw_below_drewN | apply below_drew1 | refine below_set ?_ GE149.out) | exact HB.out)⟩⟩
            · rw [if_neg c13] at H
              have c13b0 : (t155 == 0) = false := beq_eq_false_iff_ne.mpr c13
              have c13b1 : (t155 != 0) = true := bne_iff_ne.mpr c13
              obtain rfl := Option.some.inj H
              obtain ⟨Ao16, co16, eo16⟩ := Kd.V_slice HO_4.out
              subst eo16
              have p154 : 0 ≤ (x5_1 : Int) := of_decide_eq_true (by first | (with_reducible assumption) | assumption)
              have q154 : x5_1 < (t151.length : Int) := of_decide_eq_true (by first | (with_reducible assumption) | assumption)
              obtain ⟨ad154, A154_5, c154_5, e154, hx154_0, hx154_1, hx154_2, hx154_3, hx154_4, hx154_5, hl154_5, hi154_5⟩ := at_T27 (Kd.V_reads' HO_4.out).2.2 x5_1 p154 q154
              cases e154
              obtain ⟨ce154, hce154, hMe154, hcc154⟩ := Kd.V_get HO_4.out z27 x5_1 p154 (by first | exact q154 | exact of_decide_eq_true (by first | (with_reducible assumption) | assumption) | (have e_ := (Kd.V_reads' HO_4.out).1; omega))
              obtain ⟨ua154_5, uc154_5, rfl, ul154_5, ge154_5⟩ := k27_openF hMe154
              have hv154_5 := hcc154 5 _ rfl
              rw [add_field _ _ 5 (by omega)] at hv154_5
              replace hv154_5 := Option.some.inj (hv154_5.symm.trans hx154_5)
              injection hv154_5 with hva_ hvn_ hvc_
              rw [hva_] at ge154_5
              rw [hvc_] at ul154_5
              have HL154_5 := Aside0.mk (show Kd.V k27 27 _ w.heap.size _ _ ((rd_T27 t151 x5_1).f5) from Kd.V_mk ul154_5 ge154_5)
              clear hva_ hvn_ hvc_ ge154_5 ul154_5
              clear hcc154 hce154
              have HR154_5 := Aside0.mk hi154_5
              have HC154_5 := Aside0.mk hl154_5
              clear hi154_5 hl154_5
              replace p154 := eq_true p154
              replace q154 := eq_true q154
              go_wp2_with (first | ((with_reducible refine gate_callee (f := 46) rfl ?_); refine goesL_ (some 25) rfl rfl Try.func46 (by kernel_rfl) rfl #[.agg #[.int .i64 ((rd_T27 t151 x5_1).f0), .int .i64 ((rd_T27 t151 x5_1).f1), .int .i64 ((rd_T27 t151 x5_1).f2), .int .i64 ((rd_T27 t151 x5_1).f3), .int .i64 ((rd_T27 t151 x5_1).f4), .slice A154_5 ((rd_T27 t151 x5_1).f5).length c154_5]] rfl (by (try simp only [List.map_toArray, List.map_cons, List.map_nil]); first | done | rfl | (simp only [List.length_drop, List.length_take]; rfl)) ?_; (with_reducible refine (ih k1 (by have := HK1.out; omega) ((rd_T27 t151 x5_1).f0) ((rd_T27 t151 x5_1).f1) ((rd_T27 t151 x5_1).f2) ((rd_T27 t151 x5_1).f3) ((rd_T27 t151 x5_1).f4) _ _ ((rd_T27 t151 x5_1).f5) t155 _ ?side1 ?side2 A12.out).mono ?_); (case side1 => repeat (first | exact (by repeat (first | (with_reducible exact HR154_5.out) | (with_reducible refine Kd.C_alloc ?_ _) | (with_reducible refine Kd.C_drewN ?_ _) | (with_reducible refine Kd.C_drew ?_) | exact HR154_5.out)) | (with_reducible refine Kd.C_alloc ?_ _) | (with_reducible refine Kd.C_drewN ?_ _) | (with_reducible refine Kd.C_drew ?_))); (case side2 => exact HC154_5.out); rintro e w17 ⟨rfl, hb⟩; refine ⟨_, rfl, ?_⟩; have n0_ := Aside0.mk (Kd.V_below (by (with_reducible repeat (first | apply Kd.V_alloc | apply Kd.V_drewN | apply Kd.V_drew)); exact HO_4.out) hb); have n1_ := Aside0.mk (Kd.V_below (by (with_reducible repeat (first | apply Kd.V_alloc | apply Kd.V_drewN | apply Kd.V_drew)); exact HL154_5.out) hb); have n2_ := Aside0.mk (blk_below (g := gb149) (o := .cells #[.int .i64 a0_0, .int .i64 a0_1, .int .i64 a0_2, .int .i64 a0_3, .int .i64 a0_4, .slice A0_5 l0_5.length c0_5] 27 (0, 0)) (by (with_reducible repeat (first | refine blk_drewN ?_ _ | refine blk_drew ?_ | refine blk_alloc ?_ _)); exact BK149.out) hb); have n3_ := Aside0.mk (Kd.C_below (by repeat (first | (with_reducible exact HR154_5.out) | (with_reducible refine Kd.C_alloc ?_ _) | (with_reducible refine Kd.C_drewN ?_ _) | (with_reducible refine Kd.C_drew ?_) | exact HR154_5.out)) hb); have n4_ := Aside0.mk (below_step (by repeat (first | (with_reducible first | exact HB.out | apply below_alloc | apply pw_below_drewN | apply below_drew1 | refine below_set ?_ GE149.out) | exact HB.out)) hb); clear HO_4; clear HL154_5; clear BK149; clear HR154_5; clear HB; have HO_4 := n0_; have HL154_5 := n1_; have BK149 := n2_; have HR154_5 := n3_; have HB := n4_; clear n0_ n1_ n2_ n3_ n4_; (try clear hb); (try clear hb2); (try clear hk); (try clear hi)))
              go_ret
              exact ⟨by first | rfl | (simp [errW_none, errW_some] <;> rfl) | (simp [*, errW_none, errW_some] <;> rfl), by repeat (first | (with_reducible first | exact HB.out | apply below_alloc | apply pw_below_drewN | apply below_drew1 | refine below_set ?_ GE149.out) | exact HB.out)⟩
          · rw [if_neg c11] at H
            exact absurd H (by simp)
        · rw [if_neg c10] at H
          have c10b0 : decide (x5_1 < (t151.length : Int)) = false := decide_eq_false c10
          clear c10
          have H' := Aside0.mk H
          clear H
          obtain ⟨Ao18, co18, eo18⟩ := Kd.V_slice HO_4.out
          subst eo18
          go_wp2
          go_loopg [6] k1 (fun kq v6 w' => ∃ (x6_2 : Int), v6 = .int .i64 x6_2 ∧ Aside0 (passepartoutref04_check.l1 kq t151 x6_2 a0_0 a0_1 a0_2 a0_3 a0_4 l0_5 = some r) ∧ Aside0 (kq ≤ k1) ∧ Aside0 (Kd.V k27 27 w' w.heap.size (fun k_ => k_ ≠ gb149) (.slice Ao18 t151.length co18) t151) ∧ Aside0 (w'.heap[gb149]? = some (.cells #[.int .i64 a0_0, .int .i64 a0_1, .int .i64 a0_2, .int .i64 a0_3, .int .i64 a0_4, (.slice A0_5 l0_5.length c0_5)] 27 (0, 0))) ∧ Aside0 (Below w.heap.size w w'))
          case atStart => exact ⟨(0), (by first | rfl | (simp; done) | (simp [*]; done)), H', ⟨Nat.le_refl _⟩, ⟨by (with_reducible repeat (first | apply Kd.V_alloc | apply Kd.V_drewN | apply Kd.V_drew)); exact HO_4.out⟩, ⟨by (with_reducible repeat (first | refine blk_drewN ?_ _ | refine blk_drew ?_ | refine blk_alloc ?_ _)); exact BK149.out⟩, ⟨by repeat (first | (with_reducible first | exact HB.out | apply below_alloc | apply pw_below_drewN | apply below_drew1 | refine below_set ?_ GE149.out) | exact HB.out)⟩⟩
          case round =>
            clear H'
            try clear c1
            try clear p1
            try clear q1
            try clear hx1
            try clear p2
            try clear c3
            try clear c3b0
            try clear c3b1
            try clear c4
            try clear c6
            try clear p6
            try clear c10
            try clear c10b0
            try clear c11
            try clear c11b0
            try clear c13
            try clear c13b0
            try clear c13b1
            try clear c15
            try clear p15
            try clear q15
            try clear hx15
            try clear hcz6_0
            try clear hcz6_1
            try clear hcz6_2
            try clear hcz6_3
            try clear hcz6_4
            try clear hcz6_5
            try clear hcz8_0
            try clear hcz8_1
            try clear hcz8_2
            try clear hcz8_3
            try clear hcz8_4
            try clear hcz8_5
            try clear hfz6_0
            try clear hfz6_1
            try clear hfz6_2
            try clear hfz6_3
            try clear hfz6_4
            try clear hfz6_5
            try clear hfz8_0
            try clear hfz8_1
            try clear hfz8_2
            try clear hfz8_3
            try clear hfz8_4
            try clear hfz8_5
            try clear hx154_0
            try clear hx154_1
            try clear hx154_2
            try clear hx154_3
            try clear hx154_4
            try clear hx154_5
            try clear p154
            try clear p2
            try clear q154
            obtain ⟨x6_2, rfl, HA, HK2, HO_4, BK149, HB⟩ := hrel
            cases gk with
            | zero => exact absurd HA.out (by simp [passepartoutref04_check.l1])
            | succ k2 =>
              have H := HA.out
              clear HA
              simp only [passepartoutref04_check.l1] at H
              by_cases c19 : x6_2 < (t151.length : Int)
              · rw [if_pos c19] at H
                have c19b0 : decide (x6_2 < (t151.length : Int)) = true := decide_eq_true c19
                clear c19
                by_cases c20 : 0 ≤ x6_2
                · rw [if_pos c20] at H
                  have c20b0 : decide (0 ≤ x6_2) = true := decide_eq_true c20
                  clear c20
                  replace H := Option.bind_eq_some_iff.mp H
                  obtain ⟨t157, A210, H⟩ := H
                  replace H : (if t157 = true then (if a0_0 = 2 then (some 15) else (if (wrap64 (x6_2 + 1)) < (t151.length : Int) then (some 15) else (passepartoutref04_check.l1 k2 t151 (wrap64 (x6_2 + 1)) a0_0 a0_1 a0_2 a0_3 a0_4 l0_5))) else (passepartoutref04_check.l1 k2 t151 (wrap64 (x6_2 + 1)) a0_0 a0_1 a0_2 a0_3 a0_4 l0_5)) = some r := H
                  have A21 := Aside0.mk A210
                  clear A210
                  by_cases c22 : t157 = true
                  · subst c22
                    have H1 : (if a0_0 = 2 then (some 15) else (if (wrap64 (x6_2 + 1)) < (t151.length : Int) then (some 15) else (passepartoutref04_check.l1 k2 t151 (wrap64 (x6_2 + 1)) a0_0 a0_1 a0_2 a0_3 a0_4 l0_5))) = some r := by rw [if_pos rfl] at H; exact H
                    clear H
                    have H := H1
                    clear H1
                    by_cases c23 : a0_0 = 2
                    · rw [if_pos c23] at H
                      have c23b0 : (a0_0 == 2) = true := beq_iff_eq.mpr c23
                      have c23b1 : (a0_0 != 2) = false := bne_eq_false_iff_eq.mpr c23
                      clear c23
                      obtain rfl := Option.some.inj H
                      have p156 : 0 ≤ (x6_2 : Int) := of_decide_eq_true (by first | (with_reducible assumption) | assumption)
                      have q156 : x6_2 < (t151.length : Int) := of_decide_eq_true (by first | (with_reducible assumption) | assumption)
                      obtain ⟨ad156, A156_5, c156_5, e156, hx156_0, hx156_1, hx156_2, hx156_3, hx156_4, hx156_5, hl156_5, hi156_5⟩ := at_T27 (Kd.V_reads' HO_4.out).2.2 x6_2 p156 q156
                      cases e156
                      obtain ⟨ce156, hce156, hMe156, hcc156⟩ := Kd.V_get HO_4.out z27 x6_2 p156 (by first | exact q156 | exact of_decide_eq_true (by first | (with_reducible assumption) | assumption) | (have e_ := (Kd.V_reads' HO_4.out).1; omega))
                      obtain ⟨ua156_5, uc156_5, rfl, ul156_5, ge156_5⟩ := k27_openF hMe156
                      have hv156_5 := hcc156 5 _ rfl
                      rw [add_field _ _ 5 (by omega)] at hv156_5
                      replace hv156_5 := Option.some.inj (hv156_5.symm.trans hx156_5)
                      injection hv156_5 with hva_ hvn_ hvc_
                      rw [hva_] at ge156_5
                      rw [hvc_] at ul156_5
                      have HL156_5 := Aside0.mk (show Kd.V k27 27 _ w.heap.size _ _ ((rd_T27 t151 x6_2).f5) from Kd.V_mk ul156_5 ge156_5)
                      clear hva_ hvn_ hvc_ ge156_5 ul156_5
                      clear hcc156 hce156
                      have HR156_5 := Aside0.mk hi156_5
                      have HC156_5 := Aside0.mk hl156_5
                      clear hi156_5 hl156_5
                      replace p156 := eq_true p156
                      replace q156 := eq_true q156
                      go_wp2_with (first | ((with_reducible refine gate_callee (f := 65) rfl ?_); refine goesL_ (some 39) rfl rfl Try.func65 (by kernel_rfl) rfl #[.agg #[.int .i64 ((rd_T27 t151 x6_2).f0), .int .i64 ((rd_T27 t151 x6_2).f1), .int .i64 ((rd_T27 t151 x6_2).f2), .int .i64 ((rd_T27 t151 x6_2).f3), .int .i64 ((rd_T27 t151 x6_2).f4), .slice A156_5 ((rd_T27 t151 x6_2).f5).length c156_5]] rfl (by (try simp only [List.map_toArray, List.map_cons, List.map_nil]); first | done | rfl | (simp only [List.length_drop, List.length_take]; rfl)) ?_; (with_reducible refine (passepartoutref04_Open.calls k2 ((rd_T27 t151 x6_2).f0) ((rd_T27 t151 x6_2).f1) ((rd_T27 t151 x6_2).f2) ((rd_T27 t151 x6_2).f3) ((rd_T27 t151 x6_2).f4) _ _ ((rd_T27 t151 x6_2).f5) true _ ?side1 ?side2 A21.out).mono ?_); (case side1 => repeat (first | exact (by repeat (first | (with_reducible exact HR156_5.out) | (with_reducible refine Kd.C_alloc ?_ _) | (with_reducible refine Kd.C_drewN ?_ _) | (with_reducible refine Kd.C_drew ?_) | exact HR156_5.out)) | (with_reducible refine Kd.C_alloc ?_ _) | (with_reducible refine Kd.C_drewN ?_ _) | (with_reducible refine Kd.C_drew ?_))); (case side2 => exact HC156_5.out); rintro e w24 ⟨rfl, hb⟩; refine ⟨_, rfl, ?_⟩; have n0_ := Aside0.mk (Kd.V_below (by (with_reducible repeat (first | apply Kd.V_alloc | apply Kd.V_drewN | apply Kd.V_drew)); exact HO_4.out) hb); have n1_ := Aside0.mk (Kd.V_below (by (with_reducible repeat (first | apply Kd.V_alloc | apply Kd.V_drewN | apply Kd.V_drew)); exact HL156_5.out) hb); have n2_ := Aside0.mk (blk_below (g := gb149) (o := .cells #[.int .i64 a0_0, .int .i64 a0_1, .int .i64 a0_2, .int .i64 a0_3, .int .i64 a0_4, .slice A0_5 l0_5.length c0_5] 27 (0, 0)) (by (with_reducible repeat (first | refine blk_drewN ?_ _ | refine blk_drew ?_ | refine blk_alloc ?_ _)); exact BK149.out) hb); have n3_ := Aside0.mk (Kd.C_below (by repeat (first | (with_reducible exact HR156_5.out) | (with_reducible refine Kd.C_alloc ?_ _) | (with_reducible refine Kd.C_drewN ?_ _) | (with_reducible refine Kd.C_drew ?_) | exact HR156_5.out)) hb); have n4_ := Aside0.mk (below_step (by repeat (first | (with_reducible first | exact HB.out | apply below_alloc | apply pw_below_drewN | apply below_drew1 | refine below_set ?_ GE149.out) | exact HB.out)) hb); clear HO_4; clear HL156_5; clear BK149; clear HR156_5; clear HB; have HO_4 := n0_; have HL156_5 := n1_; have BK149 := n2_; have HR156_5 := n3_; have HB := n4_; clear n0_ n1_ n2_ n3_ n4_; (try clear hb); (try clear hb2); (try clear hk); (try clear hi); have hcz25_0 : w24.cell? ⟨gb149, 0, none⟩ = some (.int .i64 a0_0) := (blk_cell BK149.out 0).trans rfl; have hcz25_1 : w24.cell? ⟨gb149, 1, none⟩ = some (.int .i64 a0_1) := (blk_cell BK149.out 1).trans rfl; have hcz25_2 : w24.cell? ⟨gb149, 2, none⟩ = some (.int .i64 a0_2) := (blk_cell BK149.out 2).trans rfl; have hcz25_3 : w24.cell? ⟨gb149, 3, none⟩ = some (.int .i64 a0_3) := (blk_cell BK149.out 3).trans rfl; have hcz25_4 : w24.cell? ⟨gb149, 4, none⟩ = some (.int .i64 a0_4) := (blk_cell BK149.out 4).trans rfl; have hcz25_5 : w24.cell? ⟨gb149, 5, none⟩ = some (.slice A0_5 l0_5.length c0_5) := (blk_cell BK149.out 5).trans rfl; have hfz25_0 := blk_frozen BK149.out 0; have hfz25_1 := blk_frozen BK149.out 1; have hfz25_2 := blk_frozen BK149.out 2; have hfz25_3 := blk_frozen BK149.out 3; have hfz25_4 := blk_frozen BK149.out 4; have hfz25_5 := blk_frozen BK149.out 5))
                      go_ret
                      exact ⟨by first | rfl | (simp [errW_none, errW_some] <;> rfl) | (simp [*, errW_none, errW_some] <;> rfl), by repeat (first | (with_reducible first | exact HB.out | apply below_alloc | apply pw_below_drewN | apply below_drew1 | refine below_set ?_ GE149.out) | exact HB.out)⟩
                    · rw [if_neg c23] at H
                      have c23b0 : (a0_0 == 2) = false := beq_eq_false_iff_ne.mpr c23
                      have c23b1 : (a0_0 != 2) = true := bne_iff_ne.mpr c23
                      by_cases c26 : (wrap64 (x6_2 + 1)) < (t151.length : Int)
                      · rw [if_pos c26] at H
                        have c26b0 : decide ((wrap64 (x6_2 + 1)) < (t151.length : Int)) = true := decide_eq_true c26
                        clear c26
                        obtain rfl := Option.some.inj H
                        have p156 : 0 ≤ (x6_2 : Int) := of_decide_eq_true (by first | (with_reducible assumption) | assumption)
                        have q156 : x6_2 < (t151.length : Int) := of_decide_eq_true (by first | (with_reducible assumption) | assumption)
                        obtain ⟨ad156, A156_5, c156_5, e156, hx156_0, hx156_1, hx156_2, hx156_3, hx156_4, hx156_5, hl156_5, hi156_5⟩ := at_T27 (Kd.V_reads' HO_4.out).2.2 x6_2 p156 q156
                        cases e156
                        obtain ⟨ce156, hce156, hMe156, hcc156⟩ := Kd.V_get HO_4.out z27 x6_2 p156 (by first | exact q156 | exact of_decide_eq_true (by first | (with_reducible assumption) | assumption) | (have e_ := (Kd.V_reads' HO_4.out).1; omega))
                        obtain ⟨ua156_5, uc156_5, rfl, ul156_5, ge156_5⟩ := k27_openF hMe156
                        have hv156_5 := hcc156 5 _ rfl
                        rw [add_field _ _ 5 (by omega)] at hv156_5
                        replace hv156_5 := Option.some.inj (hv156_5.symm.trans hx156_5)
                        injection hv156_5 with hva_ hvn_ hvc_
                        rw [hva_] at ge156_5
                        rw [hvc_] at ul156_5
                        have HL156_5 := Aside0.mk (show Kd.V k27 27 _ w.heap.size _ _ ((rd_T27 t151 x6_2).f5) from Kd.V_mk ul156_5 ge156_5)
                        clear hva_ hvn_ hvc_ ge156_5 ul156_5
                        clear hcc156 hce156
                        have HR156_5 := Aside0.mk hi156_5
                        have HC156_5 := Aside0.mk hl156_5
                        clear hi156_5 hl156_5
                        replace p156 := eq_true p156
                        replace q156 := eq_true q156
                        go_wp2_with (first | ((with_reducible refine gate_callee (f := 65) rfl ?_); refine goesL_ (some 39) rfl rfl Try.func65 (by kernel_rfl) rfl #[.agg #[.int .i64 ((rd_T27 t151 x6_2).f0), .int .i64 ((rd_T27 t151 x6_2).f1), .int .i64 ((rd_T27 t151 x6_2).f2), .int .i64 ((rd_T27 t151 x6_2).f3), .int .i64 ((rd_T27 t151 x6_2).f4), .slice A156_5 ((rd_T27 t151 x6_2).f5).length c156_5]] rfl (by (try simp only [List.map_toArray, List.map_cons, List.map_nil]); first | done | rfl | (simp only [List.length_drop, List.length_take]; rfl)) ?_; (with_reducible refine (passepartoutref04_Open.calls k2 ((rd_T27 t151 x6_2).f0) ((rd_T27 t151 x6_2).f1) ((rd_T27 t151 x6_2).f2) ((rd_T27 t151 x6_2).f3) ((rd_T27 t151 x6_2).f4) _ _ ((rd_T27 t151 x6_2).f5) true _ ?side1 ?side2 A21.out).mono ?_); (case side1 => repeat (first | exact (by repeat (first | (with_reducible exact HR156_5.out) | (with_reducible refine Kd.C_alloc ?_ _) | (with_reducible refine Kd.C_drewN ?_ _) | (with_reducible refine Kd.C_drew ?_) | exact HR156_5.out)) | (with_reducible refine Kd.C_alloc ?_ _) | (with_reducible refine Kd.C_drewN ?_ _) | (with_reducible refine Kd.C_drew ?_))); (case side2 => exact HC156_5.out); rintro e w27 ⟨rfl, hb⟩; refine ⟨_, rfl, ?_⟩; have n0_ := Aside0.mk (Kd.V_below (by (with_reducible repeat (first | apply Kd.V_alloc | apply Kd.V_drewN | apply Kd.V_drew)); exact HO_4.out) hb); have n1_ := Aside0.mk (Kd.V_below (by (with_reducible repeat (first | apply Kd.V_alloc | apply Kd.V_drewN | apply Kd.V_drew)); exact HL156_5.out) hb); have n2_ := Aside0.mk (blk_below (g := gb149) (o := .cells #[.int .i64 a0_0, .int .i64 a0_1, .int .i64 a0_2, .int .i64 a0_3, .int .i64 a0_4, .slice A0_5 l0_5.length c0_5] 27 (0, 0)) (by (with_reducible repeat (first | refine blk_drewN ?_ _ | refine blk_drew ?_ | refine blk_alloc ?_ _)); exact BK149.out) hb); have n3_ := Aside0.mk (Kd.C_below (by repeat (first | (with_reducible exact HR156_5.out) | (with_reducible refine Kd.C_alloc ?_ _) | (with_reducible refine Kd.C_drewN ?_ _) | (with_reducible refine Kd.C_drew ?_) | exact HR156_5.out)) hb); have n4_ := Aside0.mk (below_step (by repeat (first | (with_reducible first | exact HB.out | apply below_alloc | apply pw_below_drewN | apply below_drew1 | refine below_set ?_ GE149.out) | exact HB.out)) hb); clear HO_4; clear HL156_5; clear BK149; clear HR156_5; clear HB; have HO_4 := n0_; have HL156_5 := n1_; have BK149 := n2_; have HR156_5 := n3_; have HB := n4_; clear n0_ n1_ n2_ n3_ n4_; (try clear hb); (try clear hb2); (try clear hk); (try clear hi); have hcz28_0 : w27.cell? ⟨gb149, 0, none⟩ = some (.int .i64 a0_0) := (blk_cell BK149.out 0).trans rfl; have hcz28_1 : w27.cell? ⟨gb149, 1, none⟩ = some (.int .i64 a0_1) := (blk_cell BK149.out 1).trans rfl; have hcz28_2 : w27.cell? ⟨gb149, 2, none⟩ = some (.int .i64 a0_2) := (blk_cell BK149.out 2).trans rfl; have hcz28_3 : w27.cell? ⟨gb149, 3, none⟩ = some (.int .i64 a0_3) := (blk_cell BK149.out 3).trans rfl; have hcz28_4 : w27.cell? ⟨gb149, 4, none⟩ = some (.int .i64 a0_4) := (blk_cell BK149.out 4).trans rfl; have hcz28_5 : w27.cell? ⟨gb149, 5, none⟩ = some (.slice A0_5 l0_5.length c0_5) := (blk_cell BK149.out 5).trans rfl; have hfz28_0 := blk_frozen BK149.out 0; have hfz28_1 := blk_frozen BK149.out 1; have hfz28_2 := blk_frozen BK149.out 2; have hfz28_3 := blk_frozen BK149.out 3; have hfz28_4 := blk_frozen BK149.out 4; have hfz28_5 := blk_frozen BK149.out 5))
                        go_ret
                        exact ⟨by first | rfl | (simp [errW_none, errW_some] <;> rfl) | (simp [*, errW_none, errW_some] <;> rfl), by repeat (first | (with_reducible first | exact HB.out | apply below_alloc | apply pw_below_drewN | apply below_drew1 | refine below_set ?_ GE149.out) | exact HB.out)⟩
                      · rw [if_neg c26] at H
                        have c26b0 : decide ((wrap64 (x6_2 + 1)) < (t151.length : Int)) = false := decide_eq_false c26
                        clear c26
                        have H' := Aside0.mk H
                        clear H
                        have p156 : 0 ≤ (x6_2 : Int) := of_decide_eq_true (by first | (with_reducible assumption) | assumption)
                        have q156 : x6_2 < (t151.length : Int) := of_decide_eq_true (by first | (with_reducible assumption) | assumption)
                        obtain ⟨ad156, A156_5, c156_5, e156, hx156_0, hx156_1, hx156_2, hx156_3, hx156_4, hx156_5, hl156_5, hi156_5⟩ := at_T27 (Kd.V_reads' HO_4.out).2.2 x6_2 p156 q156
                        cases e156
                        obtain ⟨ce156, hce156, hMe156, hcc156⟩ := Kd.V_get HO_4.out z27 x6_2 p156 (by first | exact q156 | exact of_decide_eq_true (by first | (with_reducible assumption) | assumption) | (have e_ := (Kd.V_reads' HO_4.out).1; omega))
                        obtain ⟨ua156_5, uc156_5, rfl, ul156_5, ge156_5⟩ := k27_openF hMe156
                        have hv156_5 := hcc156 5 _ rfl
                        rw [add_field _ _ 5 (by omega)] at hv156_5
                        replace hv156_5 := Option.some.inj (hv156_5.symm.trans hx156_5)
                        injection hv156_5 with hva_ hvn_ hvc_
                        rw [hva_] at ge156_5
                        rw [hvc_] at ul156_5
                        have HL156_5 := Aside0.mk (show Kd.V k27 27 _ w.heap.size _ _ ((rd_T27 t151 x6_2).f5) from Kd.V_mk ul156_5 ge156_5)
                        clear hva_ hvn_ hvc_ ge156_5 ul156_5
                        clear hcc156 hce156
                        have HR156_5 := Aside0.mk hi156_5
                        have HC156_5 := Aside0.mk hl156_5
                        clear hi156_5 hl156_5
                        replace p156 := eq_true p156
                        replace q156 := eq_true q156
                        go_wp2_with (first | ((with_reducible refine gate_callee (f := 65) rfl ?_); refine goesL_ (some 39) rfl rfl Try.func65 (by kernel_rfl) rfl #[.agg #[.int .i64 ((rd_T27 t151 x6_2).f0), .int .i64 ((rd_T27 t151 x6_2).f1), .int .i64 ((rd_T27 t151 x6_2).f2), .int .i64 ((rd_T27 t151 x6_2).f3), .int .i64 ((rd_T27 t151 x6_2).f4), .slice A156_5 ((rd_T27 t151 x6_2).f5).length c156_5]] rfl (by (try simp only [List.map_toArray, List.map_cons, List.map_nil]); first | done | rfl | (simp only [List.length_drop, List.length_take]; rfl)) ?_; (with_reducible refine (passepartoutref04_Open.calls k2 ((rd_T27 t151 x6_2).f0) ((rd_T27 t151 x6_2).f1) ((rd_T27 t151 x6_2).f2) ((rd_T27 t151 x6_2).f3) ((rd_T27 t151 x6_2).f4) _ _ ((rd_T27 t151 x6_2).f5) true _ ?side1 ?side2 A21.out).mono ?_); (case side1 => repeat (first | exact (by repeat (first | (with_reducible exact HR156_5.out) | (with_reducible refine Kd.C_alloc ?_ _) | (with_reducible refine Kd.C_drewN ?_ _) | (with_reducible refine Kd.C_drew ?_) | exact HR156_5.out)) | (with_reducible refine Kd.C_alloc ?_ _) | (with_reducible refine Kd.C_drewN ?_ _) | (with_reducible refine Kd.C_drew ?_))); (case side2 => exact HC156_5.out); rintro e w29 ⟨rfl, hb⟩; refine ⟨_, rfl, ?_⟩; have n0_ := Aside0.mk (Kd.V_below (by (with_reducible repeat (first | apply Kd.V_alloc | apply Kd.V_drewN | apply Kd.V_drew)); exact HO_4.out) hb); have n1_ := Aside0.mk (Kd.V_below (by (with_reducible repeat (first | apply Kd.V_alloc | apply Kd.V_drewN | apply Kd.V_drew)); exact HL156_5.out) hb); have n2_ := Aside0.mk (blk_below (g := gb149) (o := .cells #[.int .i64 a0_0, .int .i64 a0_1, .int .i64 a0_2, .int .i64 a0_3, .int .i64 a0_4, .slice A0_5 l0_5.length c0_5] 27 (0, 0)) (by (with_reducible repeat (first | refine blk_drewN ?_ _ | refine blk_drew ?_ | refine blk_alloc ?_ _)); exact BK149.out) hb); have n3_ := Aside0.mk (Kd.C_below (by repeat (first | (with_reducible exact HR156_5.out) | (with_reducible refine Kd.C_alloc ?_ _) | (with_reducible refine Kd.C_drewN ?_ _) | (with_reducible refine Kd.C_drew ?_) | exact HR156_5.out)) hb); have n4_ := Aside0.mk (below_step (by repeat (first | (with_reducible first | exact HB.out | apply below_alloc | apply pw_below_drewN | apply below_drew1 | refine below_set ?_ GE149.out) | exact HB.out)) hb); clear HO_4; clear HL156_5; clear BK149; clear HR156_5; clear HB; have HO_4 := n0_; have HL156_5 := n1_; have BK149 := n2_; have HR156_5 := n3_; have HB := n4_; clear n0_ n1_ n2_ n3_ n4_; (try clear hb); (try clear hb2); (try clear hk); (try clear hi); have hcz30_0 : w29.cell? ⟨gb149, 0, none⟩ = some (.int .i64 a0_0) := (blk_cell BK149.out 0).trans rfl; have hcz30_1 : w29.cell? ⟨gb149, 1, none⟩ = some (.int .i64 a0_1) := (blk_cell BK149.out 1).trans rfl; have hcz30_2 : w29.cell? ⟨gb149, 2, none⟩ = some (.int .i64 a0_2) := (blk_cell BK149.out 2).trans rfl; have hcz30_3 : w29.cell? ⟨gb149, 3, none⟩ = some (.int .i64 a0_3) := (blk_cell BK149.out 3).trans rfl; have hcz30_4 : w29.cell? ⟨gb149, 4, none⟩ = some (.int .i64 a0_4) := (blk_cell BK149.out 4).trans rfl; have hcz30_5 : w29.cell? ⟨gb149, 5, none⟩ = some (.slice A0_5 l0_5.length c0_5) := (blk_cell BK149.out 5).trans rfl; have hfz30_0 := blk_frozen BK149.out 0; have hfz30_1 := blk_frozen BK149.out 1; have hfz30_2 := blk_frozen BK149.out 2; have hfz30_3 := blk_frozen BK149.out 3; have hfz30_4 := blk_frozen BK149.out 4; have hfz30_5 := blk_frozen BK149.out 5))
                        go_roundg k2
                        case measure => have := HK1.out; have := HK2.out; omega
                        case rel => exact ⟨(wrap64 (x6_2 + 1)), (by first | rfl | (simp; done) | (simp [*]; done)), H', ⟨by have := HK1.out; have := HK2.out; omega⟩, ⟨by (with_reducible repeat (first | apply Kd.V_alloc | apply Kd.V_drewN | apply Kd.V_drew)); exact HO_4.out⟩, ⟨by (with_reducible repeat (first | refine blk_drewN ?_ _ | refine blk_drew ?_ | refine blk_alloc ?_ _)); exact BK149.out⟩, ⟨by repeat (first | (with_reducible first | exact HB.out | apply below_alloc | apply pw_below_drewN | apply below_drew1 | refine below_set ?_ GE149.out) | exact HB.out)⟩⟩
                  · replace c22 := Bool.eq_false_iff.mpr c22
                    subst c22
                    have H1 : (passepartoutref04_check.l1 k2 t151 (wrap64 (x6_2 + 1)) a0_0 a0_1 a0_2 a0_3 a0_4 l0_5) = some r := by rw [if_neg (show ¬ (false = true) by decide)] at H; exact H
                    clear H
                    have H := H1
                    clear H1
                    have H' := Aside0.mk H
                    clear H
                    have p156 : 0 ≤ (x6_2 : Int) := of_decide_eq_true (by first | (with_reducible assumption) | assumption)
                    have q156 : x6_2 < (t151.length : Int) := of_decide_eq_true (by first | (with_reducible assumption) | assumption)
                    obtain ⟨ad156, A156_5, c156_5, e156, hx156_0, hx156_1, hx156_2, hx156_3, hx156_4, hx156_5, hl156_5, hi156_5⟩ := at_T27 (Kd.V_reads' HO_4.out).2.2 x6_2 p156 q156
                    cases e156
                    obtain ⟨ce156, hce156, hMe156, hcc156⟩ := Kd.V_get HO_4.out z27 x6_2 p156 (by first | exact q156 | exact of_decide_eq_true (by first | (with_reducible assumption) | assumption) | (have e_ := (Kd.V_reads' HO_4.out).1; omega))
                    obtain ⟨ua156_5, uc156_5, rfl, ul156_5, ge156_5⟩ := k27_openF hMe156
                    have hv156_5 := hcc156 5 _ rfl
                    rw [add_field _ _ 5 (by omega)] at hv156_5
                    replace hv156_5 := Option.some.inj (hv156_5.symm.trans hx156_5)
                    injection hv156_5 with hva_ hvn_ hvc_
                    rw [hva_] at ge156_5
                    rw [hvc_] at ul156_5
                    have HL156_5 := Aside0.mk (show Kd.V k27 27 _ w.heap.size _ _ ((rd_T27 t151 x6_2).f5) from Kd.V_mk ul156_5 ge156_5)
                    clear hva_ hvn_ hvc_ ge156_5 ul156_5
                    clear hcc156 hce156
                    have HR156_5 := Aside0.mk hi156_5
                    have HC156_5 := Aside0.mk hl156_5
                    clear hi156_5 hl156_5
                    replace p156 := eq_true p156
                    replace q156 := eq_true q156
                    go_wp2_with (first | ((with_reducible refine gate_callee (f := 65) rfl ?_); refine goesL_ (some 39) rfl rfl Try.func65 (by kernel_rfl) rfl #[.agg #[.int .i64 ((rd_T27 t151 x6_2).f0), .int .i64 ((rd_T27 t151 x6_2).f1), .int .i64 ((rd_T27 t151 x6_2).f2), .int .i64 ((rd_T27 t151 x6_2).f3), .int .i64 ((rd_T27 t151 x6_2).f4), .slice A156_5 ((rd_T27 t151 x6_2).f5).length c156_5]] rfl (by (try simp only [List.map_toArray, List.map_cons, List.map_nil]); first | done | rfl | (simp only [List.length_drop, List.length_take]; rfl)) ?_; (with_reducible refine (passepartoutref04_Open.calls k2 ((rd_T27 t151 x6_2).f0) ((rd_T27 t151 x6_2).f1) ((rd_T27 t151 x6_2).f2) ((rd_T27 t151 x6_2).f3) ((rd_T27 t151 x6_2).f4) _ _ ((rd_T27 t151 x6_2).f5) false _ ?side1 ?side2 A21.out).mono ?_); (case side1 => repeat (first | exact (by repeat (first | (with_reducible exact HR156_5.out) | (with_reducible refine Kd.C_alloc ?_ _) | (with_reducible refine Kd.C_drewN ?_ _) | (with_reducible refine Kd.C_drew ?_) | exact HR156_5.out)) | (with_reducible refine Kd.C_alloc ?_ _) | (with_reducible refine Kd.C_drewN ?_ _) | (with_reducible refine Kd.C_drew ?_))); (case side2 => exact HC156_5.out); rintro e w31 ⟨rfl, hb⟩; refine ⟨_, rfl, ?_⟩; have n0_ := Aside0.mk (Kd.V_below (by (with_reducible repeat (first | apply Kd.V_alloc | apply Kd.V_drewN | apply Kd.V_drew)); exact HO_4.out) hb); have n1_ := Aside0.mk (Kd.V_below (by (with_reducible repeat (first | apply Kd.V_alloc | apply Kd.V_drewN | apply Kd.V_drew)); exact HL156_5.out) hb); have n2_ := Aside0.mk (blk_below (g := gb149) (o := .cells #[.int .i64 a0_0, .int .i64 a0_1, .int .i64 a0_2, .int .i64 a0_3, .int .i64 a0_4, .slice A0_5 l0_5.length c0_5] 27 (0, 0)) (by (with_reducible repeat (first | refine blk_drewN ?_ _ | refine blk_drew ?_ | refine blk_alloc ?_ _)); exact BK149.out) hb); have n3_ := Aside0.mk (Kd.C_below (by repeat (first | (with_reducible exact HR156_5.out) | (with_reducible refine Kd.C_alloc ?_ _) | (with_reducible refine Kd.C_drewN ?_ _) | (with_reducible refine Kd.C_drew ?_) | exact HR156_5.out)) hb); have n4_ := Aside0.mk (below_step (by repeat (first | (with_reducible first | exact HB.out | apply below_alloc | apply pw_below_drewN | apply below_drew1 | refine below_set ?_ GE149.out) | exact HB.out)) hb); clear HO_4; clear HL156_5; clear BK149; clear HR156_5; clear HB; have HO_4 := n0_; have HL156_5 := n1_; have BK149 := n2_; have HR156_5 := n3_; have HB := n4_; clear n0_ n1_ n2_ n3_ n4_; (try clear hb); (try clear hb2); (try clear hk); (try clear hi)))
                    go_roundg k2
                    case measure => have := HK1.out; have := HK2.out; omega
                    case rel => exact ⟨(wrap64 (x6_2 + 1)), (by first | rfl | (simp; done) | (simp [*]; done)), H', ⟨by have := HK1.out; have := HK2.out; omega⟩, ⟨by (with_reducible repeat (first | apply Kd.V_alloc | apply Kd.V_drewN | apply Kd.V_drew)); exact HO_4.out⟩, ⟨by (with_reducible repeat (first | refine blk_drewN ?_ _ | refine blk_drew ?_ | refine blk_alloc ?_ _)); exact BK149.out⟩, ⟨by repeat (first | (with_reducible first | exact HB.out | apply below_alloc | apply pw_below_drewN | apply below_drew1 | refine below_set ?_ GE149.out) | exact HB.out)⟩⟩
                · rw [if_neg c20] at H
                  exact absurd H (by simp)
              · rw [if_neg c19] at H
                have c19b0 : decide (x6_2 < (t151.length : Int)) = false := decide_eq_false c19
                clear c19
                by_cases c32 : a0_0 = 2
                · rw [if_pos c32] at H
                  have c32b0 : (a0_0 == 2) = true := beq_iff_eq.mpr c32
                  have c32b1 : (a0_0 != 2) = false := bne_eq_false_iff_eq.mpr c32
                  clear c32
                  by_cases c33 : 0 < (t151.length : Int)
                  · rw [if_pos c33] at H
                    have c33b0 : decide (0 < (t151.length : Int)) = true := decide_eq_true c33
                    have c33b1 : decide (0 < t151.length) = true := decide_eq_true (by omega)
                    clear c33
                    replace H := Option.bind_eq_some_iff.mp H
                    obtain ⟨t159, A340, H⟩ := H
                    replace H : (if t159 = 0 then (some 15) else (some 0)) = some r := H
                    have A34 := Aside0.mk A340
                    clear A340
                    by_cases c35 : t159 = 0
                    · rw [if_pos c35] at H
                      have c35b0 : (t159 == 0) = true := beq_iff_eq.mpr c35
                      have c35b1 : (t159 != 0) = false := bne_eq_false_iff_eq.mpr c35
                      clear c35
                      obtain rfl := Option.some.inj H
                      have hcz36_0 : wr.cell? ⟨gb149, 0, none⟩ = some (.int .i64 a0_0) := (blk_cell BK149.out 0).trans rfl
                      have hcz36_1 : wr.cell? ⟨gb149, 1, none⟩ = some (.int .i64 a0_1) := (blk_cell BK149.out 1).trans rfl
                      have hcz36_2 : wr.cell? ⟨gb149, 2, none⟩ = some (.int .i64 a0_2) := (blk_cell BK149.out 2).trans rfl
                      have hcz36_3 : wr.cell? ⟨gb149, 3, none⟩ = some (.int .i64 a0_3) := (blk_cell BK149.out 3).trans rfl
                      have hcz36_4 : wr.cell? ⟨gb149, 4, none⟩ = some (.int .i64 a0_4) := (blk_cell BK149.out 4).trans rfl
                      have hcz36_5 : wr.cell? ⟨gb149, 5, none⟩ = some (.slice A0_5 l0_5.length c0_5) := (blk_cell BK149.out 5).trans rfl
                      have hfz36_0 := blk_frozen BK149.out 0
                      have hfz36_1 := blk_frozen BK149.out 1
                      have hfz36_2 := blk_frozen BK149.out 2
                      have hfz36_3 := blk_frozen BK149.out 3
                      have hfz36_4 := blk_frozen BK149.out 4
                      have hfz36_5 := blk_frozen BK149.out 5
                      have p158 : 0 ≤ (0 : Int) := (by omega)
                      have q158 : 0 < (t151.length : Int) := of_decide_eq_true (by first | (with_reducible assumption) | assumption)
                      obtain ⟨ad158, A158_5, c158_5, e158, hx158_0, hx158_1, hx158_2, hx158_3, hx158_4, hx158_5, hl158_5, hi158_5⟩ := at_T27 (Kd.V_reads' HO_4.out).2.2 0 p158 q158
                      cases e158
                      obtain ⟨ce158, hce158, hMe158, hcc158⟩ := Kd.V_get HO_4.out z27 0 p158 (by first | exact q158 | exact of_decide_eq_true (by first | (with_reducible assumption) | assumption) | (have e_ := (Kd.V_reads' HO_4.out).1; omega))
                      obtain ⟨ua158_5, uc158_5, rfl, ul158_5, ge158_5⟩ := k27_openF hMe158
                      have hv158_5 := hcc158 5 _ rfl
                      rw [add_field _ _ 5 (by omega)] at hv158_5
                      replace hv158_5 := Option.some.inj (hv158_5.symm.trans hx158_5)
                      injection hv158_5 with hva_ hvn_ hvc_
                      rw [hva_] at ge158_5
                      rw [hvc_] at ul158_5
                      have HL158_5 := Aside0.mk (show Kd.V k27 27 _ w.heap.size _ _ ((rd_T27 t151 0).f5) from Kd.V_mk ul158_5 ge158_5)
                      clear hva_ hvn_ hvc_ ge158_5 ul158_5
                      clear hcc158 hce158
                      have qi158 : (0 < t151.length) = True := eq_true (by omega)
                      (try rw [show ((0 : Int)).toNat = 0 from rfl] at hx158_0)
                      (try rw [show 0 * 6 = 0 from rfl] at hx158_0)
                      (try rw [Addr.add_zero'] at hx158_0)
                      (try rw [show ((0 : Int)).toNat = 0 from rfl] at hx158_1)
                      (try rw [show 0 * 6 = 0 from rfl] at hx158_1)
                      (try rw [Addr.add_zero'] at hx158_1)
                      (try rw [show ((0 : Int)).toNat = 0 from rfl] at hx158_2)
                      (try rw [show 0 * 6 = 0 from rfl] at hx158_2)
                      (try rw [Addr.add_zero'] at hx158_2)
                      (try rw [show ((0 : Int)).toNat = 0 from rfl] at hx158_3)
                      (try rw [show 0 * 6 = 0 from rfl] at hx158_3)
                      (try rw [Addr.add_zero'] at hx158_3)
                      (try rw [show ((0 : Int)).toNat = 0 from rfl] at hx158_4)
                      (try rw [show 0 * 6 = 0 from rfl] at hx158_4)
                      (try rw [Addr.add_zero'] at hx158_4)
                      (try rw [show ((0 : Int)).toNat = 0 from rfl] at hx158_5)
                      (try rw [show 0 * 6 = 0 from rfl] at hx158_5)
                      (try rw [Addr.add_zero'] at hx158_5)
                      have HR158_5 := Aside0.mk hi158_5
                      have HC158_5 := Aside0.mk hl158_5
                      clear hi158_5 hl158_5
                      replace p158 := eq_true p158
                      replace q158 := eq_true q158
                      go_wp2_with (first | (go_at_call 34; (with_reducible refine (passepartoutref04_Least.calls k2 ((rd_T27 t151 0).f0) ((rd_T27 t151 0).f1) ((rd_T27 t151 0).f2) ((rd_T27 t151 0).f3) ((rd_T27 t151 0).f4) _ _ ((rd_T27 t151 0).f5) t159 _ ?side1 ?side2 A34.out).mono ?_); (case side1 => repeat (first | exact (by repeat (first | (with_reducible exact HR158_5.out) | (with_reducible refine Kd.C_alloc ?_ _) | (with_reducible refine Kd.C_drewN ?_ _) | (with_reducible refine Kd.C_drew ?_) | exact HR158_5.out)) | (with_reducible refine Kd.C_alloc ?_ _) | (with_reducible refine Kd.C_drewN ?_ _) | (with_reducible refine Kd.C_drew ?_))); (case side2 => exact HC158_5.out); rintro e w37 ⟨rfl, hb⟩; have n0_ := Aside0.mk (Kd.V_below (by (with_reducible repeat (first | apply Kd.V_alloc | apply Kd.V_drewN | apply Kd.V_drew)); exact HO_4.out) hb); have n1_ := Aside0.mk (Kd.V_below (by (with_reducible repeat (first | apply Kd.V_alloc | apply Kd.V_drewN | apply Kd.V_drew)); exact HL158_5.out) hb); have n2_ := Aside0.mk (blk_below (g := gb149) (o := .cells #[.int .i64 a0_0, .int .i64 a0_1, .int .i64 a0_2, .int .i64 a0_3, .int .i64 a0_4, .slice A0_5 l0_5.length c0_5] 27 (0, 0)) (by (with_reducible repeat (first | refine blk_drewN ?_ _ | refine blk_drew ?_ | refine blk_alloc ?_ _)); exact BK149.out) hb); have n3_ := Aside0.mk (Kd.C_below (by repeat (first | (with_reducible exact HR158_5.out) | (with_reducible refine Kd.C_alloc ?_ _) | (with_reducible refine Kd.C_drewN ?_ _) | (with_reducible refine Kd.C_drew ?_) | exact HR158_5.out)) hb); have n4_ := Aside0.mk (below_step (by repeat (first | (with_reducible first | exact HB.out | apply below_alloc | apply pw_below_drewN | apply below_drew1 | refine below_set ?_ GE149.out) | exact HB.out)) hb); clear HO_4; clear HL158_5; clear BK149; clear HR158_5; clear HB; have HO_4 := n0_; have HL158_5 := n1_; have BK149 := n2_; have HR158_5 := n3_; have HB := n4_; clear n0_ n1_ n2_ n3_ n4_; (try clear hb); (try clear hb2); (try clear hk); (try clear hi)))
                      go_ret
                      exact ⟨by first | rfl | (simp [errW_none, errW_some] <;> rfl) | (simp [*, errW_none, errW_some] <;> rfl), by repeat (first | (with_reducible first | exact HB.out | apply below_alloc | apply pw_below_drewN | apply below_drew1 | refine below_set ?_ GE149.out) | exact HB.out)⟩
                    · rw [if_neg c35] at H
                      have c35b0 : (t159 == 0) = false := beq_eq_false_iff_ne.mpr c35
                      have c35b1 : (t159 != 0) = true := bne_iff_ne.mpr c35
                      obtain rfl := Option.some.inj H
                      have hcz38_0 : wr.cell? ⟨gb149, 0, none⟩ = some (.int .i64 a0_0) := (blk_cell BK149.out 0).trans rfl
                      have hcz38_1 : wr.cell? ⟨gb149, 1, none⟩ = some (.int .i64 a0_1) := (blk_cell BK149.out 1).trans rfl
                      have hcz38_2 : wr.cell? ⟨gb149, 2, none⟩ = some (.int .i64 a0_2) := (blk_cell BK149.out 2).trans rfl
                      have hcz38_3 : wr.cell? ⟨gb149, 3, none⟩ = some (.int .i64 a0_3) := (blk_cell BK149.out 3).trans rfl
                      have hcz38_4 : wr.cell? ⟨gb149, 4, none⟩ = some (.int .i64 a0_4) := (blk_cell BK149.out 4).trans rfl
                      have hcz38_5 : wr.cell? ⟨gb149, 5, none⟩ = some (.slice A0_5 l0_5.length c0_5) := (blk_cell BK149.out 5).trans rfl
                      have hfz38_0 := blk_frozen BK149.out 0
                      have hfz38_1 := blk_frozen BK149.out 1
                      have hfz38_2 := blk_frozen BK149.out 2
                      have hfz38_3 := blk_frozen BK149.out 3
                      have hfz38_4 := blk_frozen BK149.out 4
                      have hfz38_5 := blk_frozen BK149.out 5
                      have p158 : 0 ≤ (0 : Int) := (by omega)
                      have q158 : 0 < (t151.length : Int) := of_decide_eq_true (by first | (with_reducible assumption) | assumption)
                      obtain ⟨ad158, A158_5, c158_5, e158, hx158_0, hx158_1, hx158_2, hx158_3, hx158_4, hx158_5, hl158_5, hi158_5⟩ := at_T27 (Kd.V_reads' HO_4.out).2.2 0 p158 q158
                      cases e158
                      obtain ⟨ce158, hce158, hMe158, hcc158⟩ := Kd.V_get HO_4.out z27 0 p158 (by first | exact q158 | exact of_decide_eq_true (by first | (with_reducible assumption) | assumption) | (have e_ := (Kd.V_reads' HO_4.out).1; omega))
                      obtain ⟨ua158_5, uc158_5, rfl, ul158_5, ge158_5⟩ := k27_openF hMe158
                      have hv158_5 := hcc158 5 _ rfl
                      rw [add_field _ _ 5 (by omega)] at hv158_5
                      replace hv158_5 := Option.some.inj (hv158_5.symm.trans hx158_5)
                      injection hv158_5 with hva_ hvn_ hvc_
                      rw [hva_] at ge158_5
                      rw [hvc_] at ul158_5
                      have HL158_5 := Aside0.mk (show Kd.V k27 27 _ w.heap.size _ _ ((rd_T27 t151 0).f5) from Kd.V_mk ul158_5 ge158_5)
                      clear hva_ hvn_ hvc_ ge158_5 ul158_5
                      clear hcc158 hce158
                      have qi158 : (0 < t151.length) = True := eq_true (by omega)
                      (try rw [show ((0 : Int)).toNat = 0 from rfl] at hx158_0)
                      (try rw [show 0 * 6 = 0 from rfl] at hx158_0)
                      (try rw [Addr.add_zero'] at hx158_0)
                      (try rw [show ((0 : Int)).toNat = 0 from rfl] at hx158_1)
                      (try rw [show 0 * 6 = 0 from rfl] at hx158_1)
                      (try rw [Addr.add_zero'] at hx158_1)
                      (try rw [show ((0 : Int)).toNat = 0 from rfl] at hx158_2)
                      (try rw [show 0 * 6 = 0 from rfl] at hx158_2)
                      (try rw [Addr.add_zero'] at hx158_2)
                      (try rw [show ((0 : Int)).toNat = 0 from rfl] at hx158_3)
                      (try rw [show 0 * 6 = 0 from rfl] at hx158_3)
                      (try rw [Addr.add_zero'] at hx158_3)
                      (try rw [show ((0 : Int)).toNat = 0 from rfl] at hx158_4)
                      (try rw [show 0 * 6 = 0 from rfl] at hx158_4)
                      (try rw [Addr.add_zero'] at hx158_4)
                      (try rw [show ((0 : Int)).toNat = 0 from rfl] at hx158_5)
                      (try rw [show 0 * 6 = 0 from rfl] at hx158_5)
                      (try rw [Addr.add_zero'] at hx158_5)
                      have HR158_5 := Aside0.mk hi158_5
                      have HC158_5 := Aside0.mk hl158_5
                      clear hi158_5 hl158_5
                      replace p158 := eq_true p158
                      replace q158 := eq_true q158
                      go_wp2_with (first | (go_at_call 34; (with_reducible refine (passepartoutref04_Least.calls k2 ((rd_T27 t151 0).f0) ((rd_T27 t151 0).f1) ((rd_T27 t151 0).f2) ((rd_T27 t151 0).f3) ((rd_T27 t151 0).f4) _ _ ((rd_T27 t151 0).f5) t159 _ ?side1 ?side2 A34.out).mono ?_); (case side1 => repeat (first | exact (by repeat (first | (with_reducible exact HR158_5.out) | (with_reducible refine Kd.C_alloc ?_ _) | (with_reducible refine Kd.C_drewN ?_ _) | (with_reducible refine Kd.C_drew ?_) | exact HR158_5.out)) | (with_reducible refine Kd.C_alloc ?_ _) | (with_reducible refine Kd.C_drewN ?_ _) | (with_reducible refine Kd.C_drew ?_))); (case side2 => exact HC158_5.out); rintro e w39 ⟨rfl, hb⟩; have n0_ := Aside0.mk (Kd.V_below (by (with_reducible repeat (first | apply Kd.V_alloc | apply Kd.V_drewN | apply Kd.V_drew)); exact HO_4.out) hb); have n1_ := Aside0.mk (Kd.V_below (by (with_reducible repeat (first | apply Kd.V_alloc | apply Kd.V_drewN | apply Kd.V_drew)); exact HL158_5.out) hb); have n2_ := Aside0.mk (blk_below (g := gb149) (o := .cells #[.int .i64 a0_0, .int .i64 a0_1, .int .i64 a0_2, .int .i64 a0_3, .int .i64 a0_4, .slice A0_5 l0_5.length c0_5] 27 (0, 0)) (by (with_reducible repeat (first | refine blk_drewN ?_ _ | refine blk_drew ?_ | refine blk_alloc ?_ _)); exact BK149.out) hb); have n3_ := Aside0.mk (Kd.C_below (by repeat (first | (with_reducible exact HR158_5.out) | (with_reducible refine Kd.C_alloc ?_ _) | (with_reducible refine Kd.C_drewN ?_ _) | (with_reducible refine Kd.C_drew ?_) | exact HR158_5.out)) hb); have n4_ := Aside0.mk (below_step (by repeat (first | (with_reducible first | exact HB.out | apply below_alloc | apply pw_below_drewN | apply below_drew1 | refine below_set ?_ GE149.out) | exact HB.out)) hb); clear HO_4; clear HL158_5; clear BK149; clear HR158_5; clear HB; have HO_4 := n0_; have HL158_5 := n1_; have BK149 := n2_; have HR158_5 := n3_; have HB := n4_; clear n0_ n1_ n2_ n3_ n4_; (try clear hb); (try clear hb2); (try clear hk); (try clear hi)))
                      go_ret
                      exact ⟨by first | rfl | (simp [errW_none, errW_some] <;> rfl) | (simp [*, errW_none, errW_some] <;> rfl), by repeat (first | (with_reducible first | exact HB.out | apply below_alloc | apply pw_below_drewN | apply below_drew1 | refine below_set ?_ GE149.out) | exact HB.out)⟩
                  · rw [if_neg c33] at H
                    exact absurd H (by simp)
                · rw [if_neg c32] at H
                  have c32b0 : (a0_0 == 2) = false := beq_eq_false_iff_ne.mpr c32
                  have c32b1 : (a0_0 != 2) = true := bne_iff_ne.mpr c32
                  obtain rfl := Option.some.inj H
                  have hcz40_0 : wr.cell? ⟨gb149, 0, none⟩ = some (.int .i64 a0_0) := (blk_cell BK149.out 0).trans rfl
                  have hcz40_1 : wr.cell? ⟨gb149, 1, none⟩ = some (.int .i64 a0_1) := (blk_cell BK149.out 1).trans rfl
                  have hcz40_2 : wr.cell? ⟨gb149, 2, none⟩ = some (.int .i64 a0_2) := (blk_cell BK149.out 2).trans rfl
                  have hcz40_3 : wr.cell? ⟨gb149, 3, none⟩ = some (.int .i64 a0_3) := (blk_cell BK149.out 3).trans rfl
                  have hcz40_4 : wr.cell? ⟨gb149, 4, none⟩ = some (.int .i64 a0_4) := (blk_cell BK149.out 4).trans rfl
                  have hcz40_5 : wr.cell? ⟨gb149, 5, none⟩ = some (.slice A0_5 l0_5.length c0_5) := (blk_cell BK149.out 5).trans rfl
                  have hfz40_0 := blk_frozen BK149.out 0
                  have hfz40_1 := blk_frozen BK149.out 1
                  have hfz40_2 := blk_frozen BK149.out 2
                  have hfz40_3 := blk_frozen BK149.out 3
                  have hfz40_4 := blk_frozen BK149.out 4
                  have hfz40_5 := blk_frozen BK149.out 5
                  go_wp2
                  go_ret
                  exact ⟨by first | rfl | (simp [errW_none, errW_some] <;> rfl) | (simp [*, errW_none, errW_some] <;> rfl), by repeat (first | (with_reducible first | exact HB.out | apply below_alloc | apply pw_below_drewN | apply below_drew1 | refine below_set ?_ GE149.out) | exact HB.out)⟩
  · rw [if_neg c3] at H
    have c3b0 : (t150 == 0) = false := beq_eq_false_iff_ne.mpr c3
    have c3b1 : (t150 != 0) = true := bne_iff_ne.mpr c3
    obtain rfl := Option.some.inj H
    go_enter Try.func46, Try.ntmps46
    go_wp2_with (first | ((with_reducible refine gate_dst (N := 1) rfl ?_); (try (refine gate_guard (by rfl) ?_; dsimp only)); refine box_event ?hg (N := 1) ?hd (cs := #[.int .i64 a0_0, .int .i64 a0_1, .int .i64 a0_2, .int .i64 a0_3, .int .i64 a0_4, .slice A0_5 l0_5.length c0_5]) (t := 27) ?hr ?_; (case hd => rfl); (case hg => rfl); (case hr => first | (go_simp; done) | (go_simp; rfl)); intro gb149 hg w41 hbox hb; have n0_ := Aside0.mk (below_step (by repeat (first | (with_reducible first | exact HB.out | apply below_alloc | apply pw_below_drewN | apply below_drew1) | exact HB.out)) hb); have n1_ := Aside0.mk (hbox); have n2_ := Aside0.mk ((by rw [hg]; exact (below_size (by repeat (first | (with_reducible first | exact HB.out | apply below_alloc | apply pw_below_drewN | apply below_drew1) | exact HB.out))) : w.heap.size ≤ gb149)); have n3_ := Aside0.mk ((by rw [hg]; exact (below_size (by repeat (first | (with_reducible first | exact HB.out | apply below_alloc | apply pw_below_drewN | apply below_drew1) | exact HB.out))) : w.heap.size ≤ gb149)); clear HB; have HB := n0_; have BK149 := n1_; have GW149 := n2_; have GE149 := n3_; clear n0_ n1_ n2_ n3_; clear hb hbox hg; have hcz42_0 : w41.cell? ⟨gb149, 0, none⟩ = some (.int .i64 a0_0) := (blk_cell BK149.out 0).trans rfl; have hcz42_1 : w41.cell? ⟨gb149, 1, none⟩ = some (.int .i64 a0_1) := (blk_cell BK149.out 1).trans rfl; have hcz42_2 : w41.cell? ⟨gb149, 2, none⟩ = some (.int .i64 a0_2) := (blk_cell BK149.out 2).trans rfl; have hcz42_3 : w41.cell? ⟨gb149, 3, none⟩ = some (.int .i64 a0_3) := (blk_cell BK149.out 3).trans rfl; have hcz42_4 : w41.cell? ⟨gb149, 4, none⟩ = some (.int .i64 a0_4) := (blk_cell BK149.out 4).trans rfl; have hcz42_5 : w41.cell? ⟨gb149, 5, none⟩ = some (.slice A0_5 l0_5.length c0_5) := (blk_cell BK149.out 5).trans rfl; have hfz42_0 := blk_frozen BK149.out 0; have hfz42_1 := blk_frozen BK149.out 1; have hfz42_2 := blk_frozen BK149.out 2; have hfz42_3 := blk_frozen BK149.out 3; have hfz42_4 := blk_frozen BK149.out 4; have hfz42_5 := blk_frozen BK149.out 5) | ((with_reducible refine gate_callee (f := 64) rfl ?_); refine goesL_ (some 9) rfl rfl Try.func64 (by kernel_rfl) rfl #[.agg #[.int .i64 a0_0, .int .i64 a0_1, .int .i64 a0_2, .int .i64 a0_3, .int .i64 a0_4, .slice A0_5 l0_5.length c0_5]] rfl (by (try simp only [List.map_toArray, List.map_cons, List.map_nil]); first | done | rfl | (simp only [List.length_drop, List.length_take]; rfl)) ?_; (with_reducible refine (passepartoutref04_own.calls k a0_0 a0_1 a0_2 a0_3 a0_4 _ _ l0_5 t150 _ ?side1 ?side2 A2.out).mono ?_); (case side1 => repeat (first | exact (Kd.C_below HR0_5.out HB.out) | (with_reducible refine Kd.C_alloc ?_ _) | (with_reducible refine Kd.C_drewN ?_ _) | (with_reducible refine Kd.C_drew ?_))); (case side2 => exact HC0_5.out); rintro e w43 ⟨rfl, hb⟩; refine ⟨_, rfl, ?_⟩; have n0_ := Aside0.mk (blk_below (g := gb149) (o := .cells #[.int .i64 a0_0, .int .i64 a0_1, .int .i64 a0_2, .int .i64 a0_3, .int .i64 a0_4, .slice A0_5 l0_5.length c0_5] 27 (0, 0)) (by (with_reducible repeat (first | refine blk_drewN ?_ _ | refine blk_drew ?_ | refine blk_alloc ?_ _)); exact BK149.out) hb); have n1_ := Aside0.mk (below_step (by repeat (first | (with_reducible first | exact HB.out | apply below_alloc | apply pw_below_drewN | apply below_drew1 | refine below_set ?_ GE149.out) | exact HB.out)) hb); clear BK149; clear HB; have BK149 := n0_; have HB := n1_; clear n0_ n1_; (try clear hb); (try clear hb2); (try clear hk); (try clear hi)))
    go_ret
    exact ⟨by first | rfl | (simp [errW_none, errW_some] <;> rfl) | (simp [*, errW_none, errW_some] <;> rfl), by repeat (first | (with_reducible first | exact HB.out | apply below_alloc | apply pw_below_drewN | apply below_drew1 | refine below_set ?_ GE149.out) | exact HB.out)⟩

end Go.Proofs.Ytfcghajnnllmhaa.QP
