-- Written by a program of this session (wip/tools/pw.py) out of the translation. Lean checks it.
import Derived.Test.YtfcghajnnllmhaaQPx0
import Derived.Test.YtfcghajnnllmhaaQPx7
namespace Go.Proofs.Ytfcghajnnllmhaa.QP
open Go.RowKit Go.Proofs.YtfcghajnnllmhaaW.PrintWords Go.Proofs.YtfcghajnnllmhaaW.PrintLast Go.Proofs.YtfcghajnnllmhaaW.PrintMore
attribute [local go_sem] max2_int min2_int max_two min_two max_three min_three max_four min_four   -- for this text's walks alone
set_option linter.unusedVariables false
set_option linter.unusedSimpArgs false

/-! ### passepartoutref04_own: function 64 -/
mutual
def passepartoutref04_own.j0 : Nat → Bool → Int → Int → Int → Int → Int → List (S27) → Option (Int)
  | 0, _, _, _, _, _, _, _ => none
  | k + 1, x10, x145000, x145001, x145002, x145003, x145004, x145005 => if x10 = true then (some 2) else (if x145000 = 0 then (if x145001 = 1 then (passepartoutref04_own.j1 k false x145000 x145001 x145002 x145003 x145004 x145005) else (if x145001 = 2 then (passepartoutref04_own.j1 k false x145000 x145001 x145002 x145003 x145004 x145005) else (if x145001 = 3 then (passepartoutref04_own.j1 k false x145000 x145001 x145002 x145003 x145004 x145005) else (if x145001 = 4 then (passepartoutref04_own.j1 k false x145000 x145001 x145002 x145003 x145004 x145005) else (passepartoutref04_own.j1 k (x145001 != 8) x145000 x145001 x145002 x145003 x145004 x145005))))) else (passepartoutref04_own.j1 k false x145000 x145001 x145002 x145003 x145004 x145005))
def passepartoutref04_own.j1 : Nat → Bool → Int → Int → Int → Int → Int → List (S27) → Option (Int)
  | 0, _, _, _, _, _, _, _ => none
  | k + 1, x38, x145000, x145001, x145002, x145003, x145004, x145005 => if x38 = true then (some 3) else (if x145000 = 1 then (passepartoutref04_own.j2 k true x145000 x145001 x145002 x145003 x145004 x145005) else (passepartoutref04_own.j2 k (x145000 == 2) x145000 x145001 x145002 x145003 x145004 x145005))
def passepartoutref04_own.j2 : Nat → Bool → Int → Int → Int → Int → Int → List (S27) → Option (Int)
  | 0, _, _, _, _, _, _, _ => none
  | k + 1, x46, x145000, x145001, x145002, x145003, x145004, x145005 => if x46 = true then (if x145001 < 1 then (passepartoutref04_own.j3 k true x145000 x145001 x145002 x145003 x145004 x145005) else (passepartoutref04_own.j3 k (decide (x145001 > 3)) x145000 x145001 x145002 x145003 x145004 x145005)) else (passepartoutref04_own.j4 k x145000 x145001 x145002 x145003 x145004 x145005)
def passepartoutref04_own.j4 : Nat → Int → Int → Int → Int → Int → List (S27) → Option (Int)
  | 0, _, _, _, _, _, _ => none
  | k + 1, x145000, x145001, x145002, x145003, x145004, x145005 => if x145000 = 4 then (if x145002 < 0 then (passepartoutref04_own.j5 k true x145000 x145001 x145002 x145003 x145004 x145005) else (if x145003 < x145002 then (passepartoutref04_own.j5 k true x145000 x145001 x145002 x145003 x145004 x145005) else (passepartoutref04_own.j5 k (decide (x145003 > 16777215)) x145000 x145001 x145002 x145003 x145004 x145005))) else (passepartoutref04_own.j5 k false x145000 x145001 x145002 x145003 x145004 x145005)
def passepartoutref04_own.j5 : Nat → Bool → Int → Int → Int → Int → Int → List (S27) → Option (Int)
  | 0, _, _, _, _, _, _, _ => none
  | k + 1, x102, x145000, x145001, x145002, x145003, x145004, x145005 => if x102 = true then (some 5) else (if x145000 = 5 then (if x145002 < 0 then (passepartoutref04_own.j6 k true x145000 x145001 x145002 x145003 x145004 x145005) else (passepartoutref04_own.j6 k (decide (x145002 > 16777215)) x145000 x145001 x145002 x145003 x145004 x145005)) else (passepartoutref04_own.j6 k false x145000 x145001 x145002 x145003 x145004 x145005))
def passepartoutref04_own.j6 : Nat → Bool → Int → Int → Int → Int → Int → List (S27) → Option (Int)
  | 0, _, _, _, _, _, _, _ => none
  | k + 1, x115, x145000, x145001, x145002, x145003, x145004, x145005 => if x115 = true then (some 5) else (if x145000 = 2 then (if (x145005.length : Int) = 1 then (if x145000 = 3 then (if (x145005.length : Int) > 32 then (some 15) else (some 0)) else (some 0)) else (some 15)) else (if x145000 = 3 then (if (x145005.length : Int) > 32 then (some 15) else (some 0)) else (some 0)))
def passepartoutref04_own.j3 : Nat → Bool → Int → Int → Int → Int → Int → List (S27) → Option (Int)
  | 0, _, _, _, _, _, _, _ => none
  | k + 1, x54, x145000, x145001, x145002, x145003, x145004, x145005 => if x54 = true then (some 3) else (if x145002 < 0 then (some 5) else (if x145003 < x145002 then (some 5) else ((passepartoutref04_top.f k x145001).bind fun t145 => (if x145003 > t145 then (some 5) else (if x145004 < 1 then (some 5) else (if x145004 > 65536 then (some 5) else (passepartoutref04_own.j4 k x145000 x145001 x145002 x145003 x145004 x145005)))))))
end
def passepartoutref04_own.f (k : Nat) (a0_0 : Int) (a0_1 : Int) (a0_2 : Int) (a0_3 : Int) (a0_4 : Int) (l0_5 : List (S27)) : Option (Int) := if a0_0 < 0 then (passepartoutref04_own.j0 k true a0_0 a0_1 a0_2 a0_3 a0_4 l0_5) else (passepartoutref04_own.j0 k (decide (a0_0 > 5)) a0_0 a0_1 a0_2 a0_3 a0_4 l0_5)
theorem passepartoutref04_own.mono_l : ∀ k, (∀ y0 y1 y2 y3 y4 y5 y6, LeO (passepartoutref04_own.j0 k y0 y1 y2 y3 y4 y5 y6) (passepartoutref04_own.j0 (k + 1) y0 y1 y2 y3 y4 y5 y6)) ∧ (∀ y0 y1 y2 y3 y4 y5 y6, LeO (passepartoutref04_own.j1 k y0 y1 y2 y3 y4 y5 y6) (passepartoutref04_own.j1 (k + 1) y0 y1 y2 y3 y4 y5 y6)) ∧ (∀ y0 y1 y2 y3 y4 y5 y6, LeO (passepartoutref04_own.j2 k y0 y1 y2 y3 y4 y5 y6) (passepartoutref04_own.j2 (k + 1) y0 y1 y2 y3 y4 y5 y6)) ∧ (∀ y0 y1 y2 y3 y4 y5, LeO (passepartoutref04_own.j4 k y0 y1 y2 y3 y4 y5) (passepartoutref04_own.j4 (k + 1) y0 y1 y2 y3 y4 y5)) ∧ (∀ y0 y1 y2 y3 y4 y5 y6, LeO (passepartoutref04_own.j5 k y0 y1 y2 y3 y4 y5 y6) (passepartoutref04_own.j5 (k + 1) y0 y1 y2 y3 y4 y5 y6)) ∧ (∀ y0 y1 y2 y3 y4 y5 y6, LeO (passepartoutref04_own.j6 k y0 y1 y2 y3 y4 y5 y6) (passepartoutref04_own.j6 (k + 1) y0 y1 y2 y3 y4 y5 y6)) ∧ (∀ y0 y1 y2 y3 y4 y5 y6, LeO (passepartoutref04_own.j3 k y0 y1 y2 y3 y4 y5 y6) (passepartoutref04_own.j3 (k + 1) y0 y1 y2 y3 y4 y5 y6))
  | 0 => ⟨fun _ _ _ _ _ _ _ r h => by simp [passepartoutref04_own.j0] at h, fun _ _ _ _ _ _ _ r h => by simp [passepartoutref04_own.j1] at h, fun _ _ _ _ _ _ _ r h => by simp [passepartoutref04_own.j2] at h, fun _ _ _ _ _ _ r h => by simp [passepartoutref04_own.j4] at h, fun _ _ _ _ _ _ _ r h => by simp [passepartoutref04_own.j5] at h, fun _ _ _ _ _ _ _ r h => by simp [passepartoutref04_own.j6] at h, fun _ _ _ _ _ _ _ r h => by simp [passepartoutref04_own.j3] at h⟩
  | k + 1 => by
    obtain ⟨ih0, ih1, ih2, ih3, ih4, ih5, ih6⟩ := passepartoutref04_own.mono_l k
    refine ⟨?_, ?_, ?_, ?_, ?_, ?_, ?_⟩
    · intro y0 y1 y2 y3 y4 y5 y6
      unfold passepartoutref04_own.j0
      repeat' first
      | (with_reducible exact ih0 _ _ _ _ _ _ _)
      | (with_reducible exact ih1 _ _ _ _ _ _ _)
      | (with_reducible exact ih2 _ _ _ _ _ _ _)
      | (with_reducible exact ih3 _ _ _ _ _ _)
      | (with_reducible exact ih4 _ _ _ _ _ _ _)
      | (with_reducible exact ih5 _ _ _ _ _ _ _)
      | (with_reducible exact ih6 _ _ _ _ _ _ _)
      | (with_reducible exact passepartoutref04_top.mono _ _)
      | (with_reducible exact LeO.refl _)
      | (with_reducible exact LeO.none _)
      | (with_reducible refine LeO.ite ?_ ?_)
      | (with_reducible refine LeO.bind ?_ (fun _ => ?_))
      | exact ih0 _ _ _ _ _ _ _
      | exact ih1 _ _ _ _ _ _ _
      | exact ih2 _ _ _ _ _ _ _
      | exact ih3 _ _ _ _ _ _
      | exact ih4 _ _ _ _ _ _ _
      | exact ih5 _ _ _ _ _ _ _
      | exact ih6 _ _ _ _ _ _ _
      | exact passepartoutref04_top.mono _ _
      | exact LeO.none _
      | refine LeO.ite ?_ ?_
      | refine LeO.bind ?_ (fun _ => ?_)
    · intro y0 y1 y2 y3 y4 y5 y6
      unfold passepartoutref04_own.j1
      repeat' first
      | (with_reducible exact ih0 _ _ _ _ _ _ _)
      | (with_reducible exact ih1 _ _ _ _ _ _ _)
      | (with_reducible exact ih2 _ _ _ _ _ _ _)
      | (with_reducible exact ih3 _ _ _ _ _ _)
      | (with_reducible exact ih4 _ _ _ _ _ _ _)
      | (with_reducible exact ih5 _ _ _ _ _ _ _)
      | (with_reducible exact ih6 _ _ _ _ _ _ _)
      | (with_reducible exact passepartoutref04_top.mono _ _)
      | (with_reducible exact LeO.refl _)
      | (with_reducible exact LeO.none _)
      | (with_reducible refine LeO.ite ?_ ?_)
      | (with_reducible refine LeO.bind ?_ (fun _ => ?_))
      | exact ih0 _ _ _ _ _ _ _
      | exact ih1 _ _ _ _ _ _ _
      | exact ih2 _ _ _ _ _ _ _
      | exact ih3 _ _ _ _ _ _
      | exact ih4 _ _ _ _ _ _ _
      | exact ih5 _ _ _ _ _ _ _
      | exact ih6 _ _ _ _ _ _ _
      | exact passepartoutref04_top.mono _ _
      | exact LeO.none _
      | refine LeO.ite ?_ ?_
      | refine LeO.bind ?_ (fun _ => ?_)
    · intro y0 y1 y2 y3 y4 y5 y6
      unfold passepartoutref04_own.j2
      repeat' first
      | (with_reducible exact ih0 _ _ _ _ _ _ _)
      | (with_reducible exact ih1 _ _ _ _ _ _ _)
      | (with_reducible exact ih2 _ _ _ _ _ _ _)
      | (with_reducible exact ih3 _ _ _ _ _ _)
      | (with_reducible exact ih4 _ _ _ _ _ _ _)
      | (with_reducible exact ih5 _ _ _ _ _ _ _)
      | (with_reducible exact ih6 _ _ _ _ _ _ _)
      | (with_reducible exact passepartoutref04_top.mono _ _)
      | (with_reducible exact LeO.refl _)
      | (with_reducible exact LeO.none _)
      | (with_reducible refine LeO.ite ?_ ?_)
      | (with_reducible refine LeO.bind ?_ (fun _ => ?_))
      | exact ih0 _ _ _ _ _ _ _
      | exact ih1 _ _ _ _ _ _ _
      | exact ih2 _ _ _ _ _ _ _
      | exact ih3 _ _ _ _ _ _
      | exact ih4 _ _ _ _ _ _ _
      | exact ih5 _ _ _ _ _ _ _
      | exact ih6 _ _ _ _ _ _ _
      | exact passepartoutref04_top.mono _ _
      | exact LeO.none _
      | refine LeO.ite ?_ ?_
      | refine LeO.bind ?_ (fun _ => ?_)
    · intro y0 y1 y2 y3 y4 y5
      unfold passepartoutref04_own.j4
      repeat' first
      | (with_reducible exact ih0 _ _ _ _ _ _ _)
      | (with_reducible exact ih1 _ _ _ _ _ _ _)
      | (with_reducible exact ih2 _ _ _ _ _ _ _)
      | (with_reducible exact ih3 _ _ _ _ _ _)
      | (with_reducible exact ih4 _ _ _ _ _ _ _)
      | (with_reducible exact ih5 _ _ _ _ _ _ _)
      | (with_reducible exact ih6 _ _ _ _ _ _ _)
      | (with_reducible exact passepartoutref04_top.mono _ _)
      | (with_reducible exact LeO.refl _)
      | (with_reducible exact LeO.none _)
      | (with_reducible refine LeO.ite ?_ ?_)
      | (with_reducible refine LeO.bind ?_ (fun _ => ?_))
      | exact ih0 _ _ _ _ _ _ _
      | exact ih1 _ _ _ _ _ _ _
      | exact ih2 _ _ _ _ _ _ _
      | exact ih3 _ _ _ _ _ _
      | exact ih4 _ _ _ _ _ _ _
      | exact ih5 _ _ _ _ _ _ _
      | exact ih6 _ _ _ _ _ _ _
      | exact passepartoutref04_top.mono _ _
      | exact LeO.none _
      | refine LeO.ite ?_ ?_
      | refine LeO.bind ?_ (fun _ => ?_)
    · intro y0 y1 y2 y3 y4 y5 y6
      unfold passepartoutref04_own.j5
      repeat' first
      | (with_reducible exact ih0 _ _ _ _ _ _ _)
      | (with_reducible exact ih1 _ _ _ _ _ _ _)
      | (with_reducible exact ih2 _ _ _ _ _ _ _)
      | (with_reducible exact ih3 _ _ _ _ _ _)
      | (with_reducible exact ih4 _ _ _ _ _ _ _)
      | (with_reducible exact ih5 _ _ _ _ _ _ _)
      | (with_reducible exact ih6 _ _ _ _ _ _ _)
      | (with_reducible exact passepartoutref04_top.mono _ _)
      | (with_reducible exact LeO.refl _)
      | (with_reducible exact LeO.none _)
      | (with_reducible refine LeO.ite ?_ ?_)
      | (with_reducible refine LeO.bind ?_ (fun _ => ?_))
      | exact ih0 _ _ _ _ _ _ _
      | exact ih1 _ _ _ _ _ _ _
      | exact ih2 _ _ _ _ _ _ _
      | exact ih3 _ _ _ _ _ _
      | exact ih4 _ _ _ _ _ _ _
      | exact ih5 _ _ _ _ _ _ _
      | exact ih6 _ _ _ _ _ _ _
      | exact passepartoutref04_top.mono _ _
      | exact LeO.none _
      | refine LeO.ite ?_ ?_
      | refine LeO.bind ?_ (fun _ => ?_)
    · intro y0 y1 y2 y3 y4 y5 y6
      unfold passepartoutref04_own.j6
      repeat' first
      | (with_reducible exact ih0 _ _ _ _ _ _ _)
      | (with_reducible exact ih1 _ _ _ _ _ _ _)
      | (with_reducible exact ih2 _ _ _ _ _ _ _)
      | (with_reducible exact ih3 _ _ _ _ _ _)
      | (with_reducible exact ih4 _ _ _ _ _ _ _)
      | (with_reducible exact ih5 _ _ _ _ _ _ _)
      | (with_reducible exact ih6 _ _ _ _ _ _ _)
      | (with_reducible exact passepartoutref04_top.mono _ _)
      | (with_reducible exact LeO.refl _)
      | (with_reducible exact LeO.none _)
      | (with_reducible refine LeO.ite ?_ ?_)
      | (with_reducible refine LeO.bind ?_ (fun _ => ?_))
      | exact ih0 _ _ _ _ _ _ _
      | exact ih1 _ _ _ _ _ _ _
      | exact ih2 _ _ _ _ _ _ _
      | exact ih3 _ _ _ _ _ _
      | exact ih4 _ _ _ _ _ _ _
      | exact ih5 _ _ _ _ _ _ _
      | exact ih6 _ _ _ _ _ _ _
      | exact passepartoutref04_top.mono _ _
      | exact LeO.none _
      | refine LeO.ite ?_ ?_
      | refine LeO.bind ?_ (fun _ => ?_)
    · intro y0 y1 y2 y3 y4 y5 y6
      unfold passepartoutref04_own.j3
      repeat' first
      | (with_reducible exact ih0 _ _ _ _ _ _ _)
      | (with_reducible exact ih1 _ _ _ _ _ _ _)
      | (with_reducible exact ih2 _ _ _ _ _ _ _)
      | (with_reducible exact ih3 _ _ _ _ _ _)
      | (with_reducible exact ih4 _ _ _ _ _ _ _)
      | (with_reducible exact ih5 _ _ _ _ _ _ _)
      | (with_reducible exact ih6 _ _ _ _ _ _ _)
      | (with_reducible exact passepartoutref04_top.mono _ _)
      | (with_reducible exact LeO.refl _)
      | (with_reducible exact LeO.none _)
      | (with_reducible refine LeO.ite ?_ ?_)
      | (with_reducible refine LeO.bind ?_ (fun _ => ?_))
      | exact ih0 _ _ _ _ _ _ _
      | exact ih1 _ _ _ _ _ _ _
      | exact ih2 _ _ _ _ _ _ _
      | exact ih3 _ _ _ _ _ _
      | exact ih4 _ _ _ _ _ _ _
      | exact ih5 _ _ _ _ _ _ _
      | exact ih6 _ _ _ _ _ _ _
      | exact passepartoutref04_top.mono _ _
      | exact LeO.none _
      | refine LeO.ite ?_ ?_
      | refine LeO.bind ?_ (fun _ => ?_)
theorem passepartoutref04_own.mono : ∀ a0 a1 a2 a3 a4 a5 k, LeO (passepartoutref04_own.f k a0 a1 a2 a3 a4 a5) (passepartoutref04_own.f (k + 1) a0 a1 a2 a3 a4 a5) := by
  intro a0 a1 a2 a3 a4 a5 k
  obtain ⟨ih0, ih1, ih2, ih3, ih4, ih5, ih6⟩ := passepartoutref04_own.mono_l k
  unfold passepartoutref04_own.f
  repeat' first
      | (with_reducible exact ih0 _ _ _ _ _ _ _)
      | (with_reducible exact ih1 _ _ _ _ _ _ _)
      | (with_reducible exact ih2 _ _ _ _ _ _ _)
      | (with_reducible exact ih3 _ _ _ _ _ _)
      | (with_reducible exact ih4 _ _ _ _ _ _ _)
      | (with_reducible exact ih5 _ _ _ _ _ _ _)
      | (with_reducible exact ih6 _ _ _ _ _ _ _)
      | (with_reducible exact passepartoutref04_top.mono _ _)
      | (with_reducible exact LeO.refl _)
      | (with_reducible exact LeO.none _)
      | (with_reducible refine LeO.ite ?_ ?_)
      | (with_reducible refine LeO.bind ?_ (fun _ => ?_))
      | exact ih0 _ _ _ _ _ _ _
      | exact ih1 _ _ _ _ _ _ _
      | exact ih2 _ _ _ _ _ _ _
      | exact ih3 _ _ _ _ _ _
      | exact ih4 _ _ _ _ _ _ _
      | exact ih5 _ _ _ _ _ _ _
      | exact ih6 _ _ _ _ _ _ _
      | exact passepartoutref04_top.mono _ _
      | exact LeO.none _
      | refine LeO.ite ?_ ?_
      | refine LeO.bind ?_ (fun _ => ?_)
set_option maxHeartbeats 8000000 in
set_option maxRecDepth 100000 in
theorem passepartoutref04_own.calls (k : Nat) (a0_0 : Int) (a0_1 : Int) (a0_2 : Int) (a0_3 : Int) (a0_4 : Int) (A0_5 : Option Addr) (c0_5 : Nat) (l0_5 : List (S27)) (r : Int) (w : World) (hr0_5 : Kd.C k27 w A0_5 l0_5.length l0_5) (hc0_5 : l0_5.length ≤ c0_5) (h : passepartoutref04_own.f k a0_0 a0_1 a0_2 a0_3 a0_4 l0_5 = some r) :
    Calls Try.prog 64 #[.agg #[.int .i64 a0_0, .int .i64 a0_1, .int .i64 a0_2, .int .i64 a0_3, .int .i64 a0_4, .slice A0_5 l0_5.length c0_5]] w fun e w' => e = .returned (.int .i64 r) ∧ Below w.heap.size w w' := by
  have hu27 := Try.underlying27
  have HR0_5 := Aside0.mk hr0_5
  have HC0_5 := Aside0.mk hc0_5
  clear hr0_5 hc0_5
  have HB := Aside0.mk (Below.refl w.heap.size w)
  have H : (if a0_0 < 0 then (passepartoutref04_own.j0 k true a0_0 a0_1 a0_2 a0_3 a0_4 l0_5) else (passepartoutref04_own.j0 k (decide (a0_0 > 5)) a0_0 a0_1 a0_2 a0_3 a0_4 l0_5)) = some r := h
  clear h
  have HC2 := Aside0.mk H
  clear H
  go_enter Try.func64, Try.ntmps64
  go_upto_region 1 with (first | ((with_reducible refine gate_dst (N := 1) rfl ?_); (try (refine gate_guard (by rfl) ?_; dsimp only)); refine box_event ?hg (N := 1) ?hd (cs := #[.int .i64 a0_0, .int .i64 a0_1, .int .i64 a0_2, .int .i64 a0_3, .int .i64 a0_4, .slice A0_5 l0_5.length c0_5]) (t := 27) ?hr ?_; (case hd => rfl); (case hg => rfl); (case hr => first | (go_simp; done) | (go_simp; rfl)); intro gb144 hg w3 hbox hb; have n0_ := Aside0.mk (below_step (by repeat (first | (with_reducible first | exact HB.out | apply below_alloc | apply pw_below_drewN | apply below_drew1) | exact HB.out)) hb); have n1_ := Aside0.mk (hbox); have n2_ := Aside0.mk ((by rw [hg]; exact (below_size (by repeat (first | (with_reducible first | exact HB.out | apply below_alloc | apply pw_below_drewN | apply below_drew1) | exact HB.out))) : w.heap.size ≤ gb144)); have n3_ := Aside0.mk ((by rw [hg]; exact (below_size (by repeat (first | (with_reducible first | exact HB.out | apply below_alloc | apply pw_below_drewN | apply below_drew1) | exact HB.out))) : w.heap.size ≤ gb144)); clear HB; have HB := n0_; have BK144 := n1_; have GW144 := n2_; have GE144 := n3_; clear n0_ n1_ n2_ n3_; clear hb hbox hg))
  repeat (go_quiet (first | ((with_reducible refine gate_dst (N := 1) rfl ?_); (try (refine gate_guard (by rfl) ?_; dsimp only)); refine box_event ?hg (N := 1) ?hd (cs := #[.int .i64 a0_0, .int .i64 a0_1, .int .i64 a0_2, .int .i64 a0_3, .int .i64 a0_4, .slice A0_5 l0_5.length c0_5]) (t := 27) ?hr ?_; (case hd => rfl); (case hg => rfl); (case hr => first | (go_simp; done) | (go_simp; rfl)); intro gb144 hg w3 hbox hb; have n0_ := Aside0.mk (below_step (by repeat (first | (with_reducible first | exact HB.out | apply below_alloc | apply pw_below_drewN | apply below_drew1) | exact HB.out)) hb); have n1_ := Aside0.mk (hbox); have n2_ := Aside0.mk ((by rw [hg]; exact (below_size (by repeat (first | (with_reducible first | exact HB.out | apply below_alloc | apply pw_below_drewN | apply below_drew1) | exact HB.out))) : w.heap.size ≤ gb144)); have n3_ := Aside0.mk ((by rw [hg]; exact (below_size (by repeat (first | (with_reducible first | exact HB.out | apply below_alloc | apply pw_below_drewN | apply below_drew1) | exact HB.out))) : w.heap.size ≤ gb144)); clear HB; have HB := n0_; have BK144 := n1_; have GW144 := n2_; have GE144 := n3_; clear n0_ n1_ n2_ n3_; clear hb hbox hg)); go_upto_region 1 with (first | ((with_reducible refine gate_dst (N := 1) rfl ?_); (try (refine gate_guard (by rfl) ?_; dsimp only)); refine box_event ?hg (N := 1) ?hd (cs := #[.int .i64 a0_0, .int .i64 a0_1, .int .i64 a0_2, .int .i64 a0_3, .int .i64 a0_4, .slice A0_5 l0_5.length c0_5]) (t := 27) ?hr ?_; (case hd => rfl); (case hg => rfl); (case hr => first | (go_simp; done) | (go_simp; rfl)); intro gb144 hg w3 hbox hb; have n0_ := Aside0.mk (below_step (by repeat (first | (with_reducible first | exact HB.out | apply below_alloc | apply pw_below_drewN | apply below_drew1) | exact HB.out)) hb); have n1_ := Aside0.mk (hbox); have n2_ := Aside0.mk ((by rw [hg]; exact (below_size (by repeat (first | (with_reducible first | exact HB.out | apply below_alloc | apply pw_below_drewN | apply below_drew1) | exact HB.out))) : w.heap.size ≤ gb144)); have n3_ := Aside0.mk ((by rw [hg]; exact (below_size (by repeat (first | (with_reducible first | exact HB.out | apply below_alloc | apply pw_below_drewN | apply below_drew1) | exact HB.out))) : w.heap.size ≤ gb144)); clear HB; have HB := n0_; have BK144 := n1_; have GW144 := n2_; have GE144 := n3_; clear n0_ n1_ n2_ n3_; clear hb hbox hg)))
  (try simp only [Act.put, List.setIfInBounds_toArray, List.set_cons_zero, List.set_cons_succ])
  go_cut [10] (fun v10 wc => ∃ (kq : Nat) (x10_1 : Bool), v10 = .bool x10_1 ∧ Aside0 (passepartoutref04_own.j0 kq x10_1 a0_0 a0_1 a0_2 a0_3 a0_4 l0_5 = some r) ∧ Aside0 (kq ≤ k) ∧ Aside0 (wc.heap[gb144]? = some (.cells #[.int .i64 a0_0, .int .i64 a0_1, .int .i64 a0_2, .int .i64 a0_3, .int .i64 a0_4, (.slice A0_5 l0_5.length c0_5)] 27 (0, 0))) ∧ Aside0 (Below w.heap.size w wc))
  case first =>
    have H := HC2.out
    clear HC2
    by_cases c4 : a0_0 < 0
    · rw [if_pos c4] at H
      have c4b0 : decide (a0_0 < 0) = true := decide_eq_true c4
      clear c4
      (first | rw [c4b0] | (simp only [i64_w, i32_w]; rw [c4b0]) | skip)
      have H' := Aside0.mk H
      clear H
      have hcz5_0 : w3.cell? ⟨gb144, 0, none⟩ = some (.int .i64 a0_0) := (blk_cell BK144.out 0).trans rfl
      have hcz5_1 : w3.cell? ⟨gb144, 1, none⟩ = some (.int .i64 a0_1) := (blk_cell BK144.out 1).trans rfl
      have hcz5_2 : w3.cell? ⟨gb144, 2, none⟩ = some (.int .i64 a0_2) := (blk_cell BK144.out 2).trans rfl
      have hcz5_3 : w3.cell? ⟨gb144, 3, none⟩ = some (.int .i64 a0_3) := (blk_cell BK144.out 3).trans rfl
      have hcz5_4 : w3.cell? ⟨gb144, 4, none⟩ = some (.int .i64 a0_4) := (blk_cell BK144.out 4).trans rfl
      have hcz5_5 : w3.cell? ⟨gb144, 5, none⟩ = some (.slice A0_5 l0_5.length c0_5) := (blk_cell BK144.out 5).trans rfl
      have hfz5_0 := blk_frozen BK144.out 0
      have hfz5_1 := blk_frozen BK144.out 1
      have hfz5_2 := blk_frozen BK144.out 2
      have hfz5_3 := blk_frozen BK144.out 3
      have hfz5_4 := blk_frozen BK144.out 4
      have hfz5_5 := blk_frozen BK144.out 5
      go_wp2
      repeat (go_quiet (fail); try go_wp2)
      go_meet
      case rel => exact ⟨_, (true), (by first | rfl | (simp; done) | (simp [*]; done)), H', ⟨by first | omega | exact Nat.le_refl _⟩, ⟨by (with_reducible repeat (first | refine blk_drewN ?_ _ | refine blk_drew ?_ | refine blk_alloc ?_ _)); exact BK144.out⟩, ⟨by repeat (first | (with_reducible first | exact HB.out | apply below_alloc | apply pw_below_drewN | apply below_drew1 | refine below_set ?_ GE144.out) | exact HB.out)⟩⟩
    · rw [if_neg c4] at H
      have c4b0 : decide (a0_0 < 0) = false := decide_eq_false c4
      clear c4
      (first | rw [c4b0] | (simp only [i64_w, i32_w]; rw [c4b0]) | skip)
      have H' := Aside0.mk H
      clear H
      have hcz6_0 : w3.cell? ⟨gb144, 0, none⟩ = some (.int .i64 a0_0) := (blk_cell BK144.out 0).trans rfl
      have hcz6_1 : w3.cell? ⟨gb144, 1, none⟩ = some (.int .i64 a0_1) := (blk_cell BK144.out 1).trans rfl
      have hcz6_2 : w3.cell? ⟨gb144, 2, none⟩ = some (.int .i64 a0_2) := (blk_cell BK144.out 2).trans rfl
      have hcz6_3 : w3.cell? ⟨gb144, 3, none⟩ = some (.int .i64 a0_3) := (blk_cell BK144.out 3).trans rfl
      have hcz6_4 : w3.cell? ⟨gb144, 4, none⟩ = some (.int .i64 a0_4) := (blk_cell BK144.out 4).trans rfl
      have hcz6_5 : w3.cell? ⟨gb144, 5, none⟩ = some (.slice A0_5 l0_5.length c0_5) := (blk_cell BK144.out 5).trans rfl
      have hfz6_0 := blk_frozen BK144.out 0
      have hfz6_1 := blk_frozen BK144.out 1
      have hfz6_2 := blk_frozen BK144.out 2
      have hfz6_3 := blk_frozen BK144.out 3
      have hfz6_4 := blk_frozen BK144.out 4
      have hfz6_5 := blk_frozen BK144.out 5
      go_wp2
      repeat (go_quiet (fail); try go_wp2)
      go_meet
      case rel => exact ⟨_, (decide (a0_0 > 5)), (by first | rfl | (simp; done) | (simp [*]; done)), H', ⟨by first | omega | exact Nat.le_refl _⟩, ⟨by (with_reducible repeat (first | refine blk_drewN ?_ _ | refine blk_drew ?_ | refine blk_alloc ?_ _)); exact BK144.out⟩, ⟨by repeat (first | (with_reducible first | exact HB.out | apply below_alloc | apply pw_below_drewN | apply below_drew1 | refine below_set ?_ GE144.out) | exact HB.out)⟩⟩
  case rest =>
    clear HC2
    try clear p2
    try clear c4
    try clear c4b0
    try clear c6
    try clear hcz5_0
    try clear hcz5_1
    try clear hcz5_2
    try clear hcz5_3
    try clear hcz5_4
    try clear hcz5_5
    try clear hcz6_0
    try clear hcz6_1
    try clear hcz6_2
    try clear hcz6_3
    try clear hcz6_4
    try clear hcz6_5
    try clear hfz5_0
    try clear hfz5_1
    try clear hfz5_2
    try clear hfz5_3
    try clear hfz5_4
    try clear hfz5_5
    try clear hfz6_0
    try clear hfz6_1
    try clear hfz6_2
    try clear hfz6_3
    try clear hfz6_4
    try clear hfz6_5
    obtain ⟨kq, x10_1, rfl, HA, HJ1, BK144, HB⟩ := hcut
    cases kq with
    | zero => exact absurd HA.out (by simp [passepartoutref04_own.j0])
    | succ kj1 =>
      have H := HA.out
      clear HA
      simp only [passepartoutref04_own.j0] at H
      by_cases c7 : x10_1 = true
      · subst c7
        have H1 : (some 2) = some r := by rw [if_pos rfl] at H; exact H
        clear H
        have H := H1
        clear H1
        obtain rfl := Option.some.inj H
        go_wp2
        repeat (go_quiet (fail); try go_wp2)
        go_ret
        exact ⟨by first | rfl | (simp [errW_none, errW_some] <;> rfl) | (simp [*, errW_none, errW_some] <;> rfl), by repeat (first | (with_reducible first | exact HB.out | apply below_alloc | apply pw_below_drewN | apply below_drew1 | refine below_set ?_ GE144.out) | exact HB.out)⟩
      · replace c7 := Bool.eq_false_iff.mpr c7
        subst c7
        have H1 : (if a0_0 = 0 then (if a0_1 = 1 then (passepartoutref04_own.j1 kj1 false a0_0 a0_1 a0_2 a0_3 a0_4 l0_5) else (if a0_1 = 2 then (passepartoutref04_own.j1 kj1 false a0_0 a0_1 a0_2 a0_3 a0_4 l0_5) else (if a0_1 = 3 then (passepartoutref04_own.j1 kj1 false a0_0 a0_1 a0_2 a0_3 a0_4 l0_5) else (if a0_1 = 4 then (passepartoutref04_own.j1 kj1 false a0_0 a0_1 a0_2 a0_3 a0_4 l0_5) else (passepartoutref04_own.j1 kj1 (a0_1 != 8) a0_0 a0_1 a0_2 a0_3 a0_4 l0_5))))) else (passepartoutref04_own.j1 kj1 false a0_0 a0_1 a0_2 a0_3 a0_4 l0_5)) = some r := by rw [if_neg (show ¬ (false = true) by decide)] at H; exact H
        clear H
        have H := H1
        clear H1
        have HC8 := Aside0.mk H
        clear H
        go_upto_region 3 with (fail)
        repeat (go_quiet (fail); go_upto_region 3 with (fail))
        go_cut [38] (fun v38 wc => ∃ (kq : Nat) (x38_7 : Bool), v38 = .bool x38_7 ∧ Aside0 (passepartoutref04_own.j1 kq x38_7 a0_0 a0_1 a0_2 a0_3 a0_4 l0_5 = some r) ∧ Aside0 (kq ≤ kj1) ∧ Aside0 (wc.heap[gb144]? = some (.cells #[.int .i64 a0_0, .int .i64 a0_1, .int .i64 a0_2, .int .i64 a0_3, .int .i64 a0_4, (.slice A0_5 l0_5.length c0_5)] 27 (0, 0))) ∧ Aside0 (Below w.heap.size w wc))
        case first =>
          have H := HC8.out
          clear HC8
          by_cases c9 : a0_0 = 0
          · rw [if_pos c9] at H
            have c9b0 : (a0_0 == 0) = true := beq_iff_eq.mpr c9
            have c9b1 : (a0_0 != 0) = false := bne_eq_false_iff_eq.mpr c9
            clear c9
            (first | rw [c9b0] | (simp only [i64_w, i32_w]; rw [c9b0]) | skip)
            by_cases c10 : a0_1 = 1
            · rw [if_pos c10] at H
              have c10b0 : (a0_1 == 1) = true := beq_iff_eq.mpr c10
              have c10b1 : (a0_1 != 1) = false := bne_eq_false_iff_eq.mpr c10
              clear c10
              have H' := Aside0.mk H
              clear H
              have hcz11_0 : wc.cell? ⟨gb144, 0, none⟩ = some (.int .i64 a0_0) := (blk_cell BK144.out 0).trans rfl
              have hcz11_1 : wc.cell? ⟨gb144, 1, none⟩ = some (.int .i64 a0_1) := (blk_cell BK144.out 1).trans rfl
              have hcz11_2 : wc.cell? ⟨gb144, 2, none⟩ = some (.int .i64 a0_2) := (blk_cell BK144.out 2).trans rfl
              have hcz11_3 : wc.cell? ⟨gb144, 3, none⟩ = some (.int .i64 a0_3) := (blk_cell BK144.out 3).trans rfl
              have hcz11_4 : wc.cell? ⟨gb144, 4, none⟩ = some (.int .i64 a0_4) := (blk_cell BK144.out 4).trans rfl
              have hcz11_5 : wc.cell? ⟨gb144, 5, none⟩ = some (.slice A0_5 l0_5.length c0_5) := (blk_cell BK144.out 5).trans rfl
              have hfz11_0 := blk_frozen BK144.out 0
              have hfz11_1 := blk_frozen BK144.out 1
              have hfz11_2 := blk_frozen BK144.out 2
              have hfz11_3 := blk_frozen BK144.out 3
              have hfz11_4 := blk_frozen BK144.out 4
              have hfz11_5 := blk_frozen BK144.out 5
              go_wp2
              repeat (go_quiet (fail); try go_wp2)
              go_meet
              case rel => exact ⟨_, (false), (by first | rfl | (simp; done) | (simp [*]; done)), H', ⟨by have := HJ1.out; first | omega | exact Nat.le_refl _⟩, ⟨by (with_reducible repeat (first | refine blk_drewN ?_ _ | refine blk_drew ?_ | refine blk_alloc ?_ _)); exact BK144.out⟩, ⟨by repeat (first | (with_reducible first | exact HB.out | apply below_alloc | apply pw_below_drewN | apply below_drew1 | refine below_set ?_ GE144.out) | exact HB.out)⟩⟩
            · rw [if_neg c10] at H
              have c10b0 : (a0_1 == 1) = false := beq_eq_false_iff_ne.mpr c10
              have c10b1 : (a0_1 != 1) = true := bne_iff_ne.mpr c10
              by_cases c12 : a0_1 = 2
              · rw [if_pos c12] at H
                have c12b0 : (a0_1 == 2) = true := beq_iff_eq.mpr c12
                have c12b1 : (a0_1 != 2) = false := bne_eq_false_iff_eq.mpr c12
                clear c12
                have H' := Aside0.mk H
                clear H
                have hcz13_0 : wc.cell? ⟨gb144, 0, none⟩ = some (.int .i64 a0_0) := (blk_cell BK144.out 0).trans rfl
                have hcz13_1 : wc.cell? ⟨gb144, 1, none⟩ = some (.int .i64 a0_1) := (blk_cell BK144.out 1).trans rfl
                have hcz13_2 : wc.cell? ⟨gb144, 2, none⟩ = some (.int .i64 a0_2) := (blk_cell BK144.out 2).trans rfl
                have hcz13_3 : wc.cell? ⟨gb144, 3, none⟩ = some (.int .i64 a0_3) := (blk_cell BK144.out 3).trans rfl
                have hcz13_4 : wc.cell? ⟨gb144, 4, none⟩ = some (.int .i64 a0_4) := (blk_cell BK144.out 4).trans rfl
                have hcz13_5 : wc.cell? ⟨gb144, 5, none⟩ = some (.slice A0_5 l0_5.length c0_5) := (blk_cell BK144.out 5).trans rfl
                have hfz13_0 := blk_frozen BK144.out 0
                have hfz13_1 := blk_frozen BK144.out 1
                have hfz13_2 := blk_frozen BK144.out 2
                have hfz13_3 := blk_frozen BK144.out 3
                have hfz13_4 := blk_frozen BK144.out 4
                have hfz13_5 := blk_frozen BK144.out 5
                go_wp2
                repeat (go_quiet (fail); try go_wp2)
                go_meet
                case rel => exact ⟨_, (false), (by first | rfl | (simp; done) | (simp [*]; done)), H', ⟨by have := HJ1.out; first | omega | exact Nat.le_refl _⟩, ⟨by (with_reducible repeat (first | refine blk_drewN ?_ _ | refine blk_drew ?_ | refine blk_alloc ?_ _)); exact BK144.out⟩, ⟨by repeat (first | (with_reducible first | exact HB.out | apply below_alloc | apply pw_below_drewN | apply below_drew1 | refine below_set ?_ GE144.out) | exact HB.out)⟩⟩
              · rw [if_neg c12] at H
                have c12b0 : (a0_1 == 2) = false := beq_eq_false_iff_ne.mpr c12
                have c12b1 : (a0_1 != 2) = true := bne_iff_ne.mpr c12
                by_cases c14 : a0_1 = 3
                · rw [if_pos c14] at H
                  have c14b0 : (a0_1 == 3) = true := beq_iff_eq.mpr c14
                  have c14b1 : (a0_1 != 3) = false := bne_eq_false_iff_eq.mpr c14
                  clear c14
                  have H' := Aside0.mk H
                  clear H
                  have hcz15_0 : wc.cell? ⟨gb144, 0, none⟩ = some (.int .i64 a0_0) := (blk_cell BK144.out 0).trans rfl
                  have hcz15_1 : wc.cell? ⟨gb144, 1, none⟩ = some (.int .i64 a0_1) := (blk_cell BK144.out 1).trans rfl
                  have hcz15_2 : wc.cell? ⟨gb144, 2, none⟩ = some (.int .i64 a0_2) := (blk_cell BK144.out 2).trans rfl
                  have hcz15_3 : wc.cell? ⟨gb144, 3, none⟩ = some (.int .i64 a0_3) := (blk_cell BK144.out 3).trans rfl
                  have hcz15_4 : wc.cell? ⟨gb144, 4, none⟩ = some (.int .i64 a0_4) := (blk_cell BK144.out 4).trans rfl
                  have hcz15_5 : wc.cell? ⟨gb144, 5, none⟩ = some (.slice A0_5 l0_5.length c0_5) := (blk_cell BK144.out 5).trans rfl
                  have hfz15_0 := blk_frozen BK144.out 0
                  have hfz15_1 := blk_frozen BK144.out 1
                  have hfz15_2 := blk_frozen BK144.out 2
                  have hfz15_3 := blk_frozen BK144.out 3
                  have hfz15_4 := blk_frozen BK144.out 4
                  have hfz15_5 := blk_frozen BK144.out 5
                  go_wp2
                  repeat (go_quiet (fail); try go_wp2)
                  go_meet
                  case rel => exact ⟨_, (false), (by first | rfl | (simp; done) | (simp [*]; done)), H', ⟨by have := HJ1.out; first | omega | exact Nat.le_refl _⟩, ⟨by (with_reducible repeat (first | refine blk_drewN ?_ _ | refine blk_drew ?_ | refine blk_alloc ?_ _)); exact BK144.out⟩, ⟨by repeat (first | (with_reducible first | exact HB.out | apply below_alloc | apply pw_below_drewN | apply below_drew1 | refine below_set ?_ GE144.out) | exact HB.out)⟩⟩
                · rw [if_neg c14] at H
                  have c14b0 : (a0_1 == 3) = false := beq_eq_false_iff_ne.mpr c14
                  have c14b1 : (a0_1 != 3) = true := bne_iff_ne.mpr c14
                  by_cases c16 : a0_1 = 4
                  · rw [if_pos c16] at H
                    have c16b0 : (a0_1 == 4) = true := beq_iff_eq.mpr c16
                    have c16b1 : (a0_1 != 4) = false := bne_eq_false_iff_eq.mpr c16
                    clear c16
                    have H' := Aside0.mk H
                    clear H
                    have hcz17_0 : wc.cell? ⟨gb144, 0, none⟩ = some (.int .i64 a0_0) := (blk_cell BK144.out 0).trans rfl
                    have hcz17_1 : wc.cell? ⟨gb144, 1, none⟩ = some (.int .i64 a0_1) := (blk_cell BK144.out 1).trans rfl
                    have hcz17_2 : wc.cell? ⟨gb144, 2, none⟩ = some (.int .i64 a0_2) := (blk_cell BK144.out 2).trans rfl
                    have hcz17_3 : wc.cell? ⟨gb144, 3, none⟩ = some (.int .i64 a0_3) := (blk_cell BK144.out 3).trans rfl
                    have hcz17_4 : wc.cell? ⟨gb144, 4, none⟩ = some (.int .i64 a0_4) := (blk_cell BK144.out 4).trans rfl
                    have hcz17_5 : wc.cell? ⟨gb144, 5, none⟩ = some (.slice A0_5 l0_5.length c0_5) := (blk_cell BK144.out 5).trans rfl
                    have hfz17_0 := blk_frozen BK144.out 0
                    have hfz17_1 := blk_frozen BK144.out 1
                    have hfz17_2 := blk_frozen BK144.out 2
                    have hfz17_3 := blk_frozen BK144.out 3
                    have hfz17_4 := blk_frozen BK144.out 4
                    have hfz17_5 := blk_frozen BK144.out 5
                    go_wp2
                    repeat (go_quiet (fail); try go_wp2)
                    go_meet
                    case rel => exact ⟨_, (false), (by first | rfl | (simp; done) | (simp [*]; done)), H', ⟨by have := HJ1.out; first | omega | exact Nat.le_refl _⟩, ⟨by (with_reducible repeat (first | refine blk_drewN ?_ _ | refine blk_drew ?_ | refine blk_alloc ?_ _)); exact BK144.out⟩, ⟨by repeat (first | (with_reducible first | exact HB.out | apply below_alloc | apply pw_below_drewN | apply below_drew1 | refine below_set ?_ GE144.out) | exact HB.out)⟩⟩
                  · rw [if_neg c16] at H
                    have c16b0 : (a0_1 == 4) = false := beq_eq_false_iff_ne.mpr c16
                    have c16b1 : (a0_1 != 4) = true := bne_iff_ne.mpr c16
                    have H' := Aside0.mk H
                    clear H
                    have hcz18_0 : wc.cell? ⟨gb144, 0, none⟩ = some (.int .i64 a0_0) := (blk_cell BK144.out 0).trans rfl
                    have hcz18_1 : wc.cell? ⟨gb144, 1, none⟩ = some (.int .i64 a0_1) := (blk_cell BK144.out 1).trans rfl
                    have hcz18_2 : wc.cell? ⟨gb144, 2, none⟩ = some (.int .i64 a0_2) := (blk_cell BK144.out 2).trans rfl
                    have hcz18_3 : wc.cell? ⟨gb144, 3, none⟩ = some (.int .i64 a0_3) := (blk_cell BK144.out 3).trans rfl
                    have hcz18_4 : wc.cell? ⟨gb144, 4, none⟩ = some (.int .i64 a0_4) := (blk_cell BK144.out 4).trans rfl
                    have hcz18_5 : wc.cell? ⟨gb144, 5, none⟩ = some (.slice A0_5 l0_5.length c0_5) := (blk_cell BK144.out 5).trans rfl
                    have hfz18_0 := blk_frozen BK144.out 0
                    have hfz18_1 := blk_frozen BK144.out 1
                    have hfz18_2 := blk_frozen BK144.out 2
                    have hfz18_3 := blk_frozen BK144.out 3
                    have hfz18_4 := blk_frozen BK144.out 4
                    have hfz18_5 := blk_frozen BK144.out 5
                    go_wp2
                    repeat (go_quiet (fail); try go_wp2)
                    go_meet
                    case rel => exact ⟨_, ((a0_1 != 8)), (by first | rfl | (simp; done) | (simp [*]; done)), H', ⟨by have := HJ1.out; first | omega | exact Nat.le_refl _⟩, ⟨by (with_reducible repeat (first | refine blk_drewN ?_ _ | refine blk_drew ?_ | refine blk_alloc ?_ _)); exact BK144.out⟩, ⟨by repeat (first | (with_reducible first | exact HB.out | apply below_alloc | apply pw_below_drewN | apply below_drew1 | refine below_set ?_ GE144.out) | exact HB.out)⟩⟩
          · rw [if_neg c9] at H
            have c9b0 : (a0_0 == 0) = false := beq_eq_false_iff_ne.mpr c9
            have c9b1 : (a0_0 != 0) = true := bne_iff_ne.mpr c9
            (first | rw [c9b0] | (simp only [i64_w, i32_w]; rw [c9b0]) | skip)
            have H' := Aside0.mk H
            clear H
            have hcz19_0 : wc.cell? ⟨gb144, 0, none⟩ = some (.int .i64 a0_0) := (blk_cell BK144.out 0).trans rfl
            have hcz19_1 : wc.cell? ⟨gb144, 1, none⟩ = some (.int .i64 a0_1) := (blk_cell BK144.out 1).trans rfl
            have hcz19_2 : wc.cell? ⟨gb144, 2, none⟩ = some (.int .i64 a0_2) := (blk_cell BK144.out 2).trans rfl
            have hcz19_3 : wc.cell? ⟨gb144, 3, none⟩ = some (.int .i64 a0_3) := (blk_cell BK144.out 3).trans rfl
            have hcz19_4 : wc.cell? ⟨gb144, 4, none⟩ = some (.int .i64 a0_4) := (blk_cell BK144.out 4).trans rfl
            have hcz19_5 : wc.cell? ⟨gb144, 5, none⟩ = some (.slice A0_5 l0_5.length c0_5) := (blk_cell BK144.out 5).trans rfl
            have hfz19_0 := blk_frozen BK144.out 0
            have hfz19_1 := blk_frozen BK144.out 1
            have hfz19_2 := blk_frozen BK144.out 2
            have hfz19_3 := blk_frozen BK144.out 3
            have hfz19_4 := blk_frozen BK144.out 4
            have hfz19_5 := blk_frozen BK144.out 5
            go_wp2
            repeat (go_quiet (fail); try go_wp2)
            go_meet
            case rel => exact ⟨_, (false), (by first | rfl | (simp; done) | (simp [*]; done)), H', ⟨by have := HJ1.out; first | omega | exact Nat.le_refl _⟩, ⟨by (with_reducible repeat (first | refine blk_drewN ?_ _ | refine blk_drew ?_ | refine blk_alloc ?_ _)); exact BK144.out⟩, ⟨by repeat (first | (with_reducible first | exact HB.out | apply below_alloc | apply pw_below_drewN | apply below_drew1 | refine below_set ?_ GE144.out) | exact HB.out)⟩⟩
        case rest =>
          clear HC8
          try clear c1
          try clear p2
          try clear c4
          try clear c4b0
          try clear c6
          try clear c7
          try clear c9
          try clear c9b0
          try clear c9b1
          try clear c10
          try clear c10b0
          try clear c10b1
          try clear c12
          try clear c12b0
          try clear c12b1
          try clear c14
          try clear c14b0
          try clear c14b1
          try clear c16
          try clear c16b0
          try clear c16b1
          try clear hcz11_0
          try clear hcz11_1
          try clear hcz11_2
          try clear hcz11_3
          try clear hcz11_4
          try clear hcz11_5
          try clear hcz13_0
          try clear hcz13_1
          try clear hcz13_2
          try clear hcz13_3
          try clear hcz13_4
          try clear hcz13_5
          try clear hcz15_0
          try clear hcz15_1
          try clear hcz15_2
          try clear hcz15_3
          try clear hcz15_4
          try clear hcz15_5
          try clear hcz17_0
          try clear hcz17_1
          try clear hcz17_2
          try clear hcz17_3
          try clear hcz17_4
          try clear hcz17_5
          try clear hcz18_0
          try clear hcz18_1
          try clear hcz18_2
          try clear hcz18_3
          try clear hcz18_4
          try clear hcz18_5
          try clear hcz19_0
          try clear hcz19_1
          try clear hcz19_2
          try clear hcz19_3
          try clear hcz19_4
          try clear hcz19_5
          try clear hcz5_0
          try clear hcz5_1
          try clear hcz5_2
          try clear hcz5_3
          try clear hcz5_4
          try clear hcz5_5
          try clear hcz6_0
          try clear hcz6_1
          try clear hcz6_2
          try clear hcz6_3
          try clear hcz6_4
          try clear hcz6_5
          try clear hfz11_0
          try clear hfz11_1
          try clear hfz11_2
          try clear hfz11_3
          try clear hfz11_4
          try clear hfz11_5
          try clear hfz13_0
          try clear hfz13_1
          try clear hfz13_2
          try clear hfz13_3
          try clear hfz13_4
          try clear hfz13_5
          try clear hfz15_0
          try clear hfz15_1
          try clear hfz15_2
          try clear hfz15_3
          try clear hfz15_4
          try clear hfz15_5
          try clear hfz17_0
          try clear hfz17_1
          try clear hfz17_2
          try clear hfz17_3
          try clear hfz17_4
          try clear hfz17_5
          try clear hfz18_0
          try clear hfz18_1
          try clear hfz18_2
          try clear hfz18_3
          try clear hfz18_4
          try clear hfz18_5
          try clear hfz19_0
          try clear hfz19_1
          try clear hfz19_2
          try clear hfz19_3
          try clear hfz19_4
          try clear hfz19_5
          try clear hfz5_0
          try clear hfz5_1
          try clear hfz5_2
          try clear hfz5_3
          try clear hfz5_4
          try clear hfz5_5
          try clear hfz6_0
          try clear hfz6_1
          try clear hfz6_2
          try clear hfz6_3
          try clear hfz6_4
          try clear hfz6_5
          try clear p2
          obtain ⟨kq, x38_7, rfl, HA, HJ7, BK144, HB⟩ := hcut
          cases kq with
          | zero => exact absurd HA.out (by simp [passepartoutref04_own.j1])
          | succ kj7 =>
            have H := HA.out
            clear HA
            simp only [passepartoutref04_own.j1] at H
            by_cases c20 : x38_7 = true
            · subst c20
              have H1 : (some 3) = some r := by rw [if_pos rfl] at H; exact H
              clear H
              have H := H1
              clear H1
              obtain rfl := Option.some.inj H
              go_wp2
              repeat (go_quiet (fail); try go_wp2)
              go_ret
              exact ⟨by first | rfl | (simp [errW_none, errW_some] <;> rfl) | (simp [*, errW_none, errW_some] <;> rfl), by repeat (first | (with_reducible first | exact HB.out | apply below_alloc | apply pw_below_drewN | apply below_drew1 | refine below_set ?_ GE144.out) | exact HB.out)⟩
            · replace c20 := Bool.eq_false_iff.mpr c20
              subst c20
              have H1 : (if a0_0 = 1 then (passepartoutref04_own.j2 kj7 true a0_0 a0_1 a0_2 a0_3 a0_4 l0_5) else (passepartoutref04_own.j2 kj7 (a0_0 == 2) a0_0 a0_1 a0_2 a0_3 a0_4 l0_5)) = some r := by rw [if_neg (show ¬ (false = true) by decide)] at H; exact H
              clear H
              have H := H1
              clear H1
              have HC21 := Aside0.mk H
              clear H
              go_upto_region 5 with (fail)
              repeat (go_quiet (fail); go_upto_region 5 with (fail))
              go_cut [46] (fun v46 wc => ∃ (kq : Nat) (x46_20 : Bool), v46 = .bool x46_20 ∧ Aside0 (passepartoutref04_own.j2 kq x46_20 a0_0 a0_1 a0_2 a0_3 a0_4 l0_5 = some r) ∧ Aside0 (kq ≤ kj7) ∧ Aside0 (wc.heap[gb144]? = some (.cells #[.int .i64 a0_0, .int .i64 a0_1, .int .i64 a0_2, .int .i64 a0_3, .int .i64 a0_4, (.slice A0_5 l0_5.length c0_5)] 27 (0, 0))) ∧ Aside0 (Below w.heap.size w wc))
              case first =>
                have H := HC21.out
                clear HC21
                by_cases c22 : a0_0 = 1
                · rw [if_pos c22] at H
                  have c22b0 : (a0_0 == 1) = true := beq_iff_eq.mpr c22
                  have c22b1 : (a0_0 != 1) = false := bne_eq_false_iff_eq.mpr c22
                  clear c22
                  (first | rw [c22b0] | (simp only [i64_w, i32_w]; rw [c22b0]) | skip)
                  have H' := Aside0.mk H
                  clear H
                  have hcz23_0 : wc.cell? ⟨gb144, 0, none⟩ = some (.int .i64 a0_0) := (blk_cell BK144.out 0).trans rfl
                  have hcz23_1 : wc.cell? ⟨gb144, 1, none⟩ = some (.int .i64 a0_1) := (blk_cell BK144.out 1).trans rfl
                  have hcz23_2 : wc.cell? ⟨gb144, 2, none⟩ = some (.int .i64 a0_2) := (blk_cell BK144.out 2).trans rfl
                  have hcz23_3 : wc.cell? ⟨gb144, 3, none⟩ = some (.int .i64 a0_3) := (blk_cell BK144.out 3).trans rfl
                  have hcz23_4 : wc.cell? ⟨gb144, 4, none⟩ = some (.int .i64 a0_4) := (blk_cell BK144.out 4).trans rfl
                  have hcz23_5 : wc.cell? ⟨gb144, 5, none⟩ = some (.slice A0_5 l0_5.length c0_5) := (blk_cell BK144.out 5).trans rfl
                  have hfz23_0 := blk_frozen BK144.out 0
                  have hfz23_1 := blk_frozen BK144.out 1
                  have hfz23_2 := blk_frozen BK144.out 2
                  have hfz23_3 := blk_frozen BK144.out 3
                  have hfz23_4 := blk_frozen BK144.out 4
                  have hfz23_5 := blk_frozen BK144.out 5
                  go_wp2
                  repeat (go_quiet (fail); try go_wp2)
                  go_meet
                  case rel => exact ⟨_, (true), (by first | rfl | (simp; done) | (simp [*]; done)), H', ⟨by have := HJ1.out; have := HJ7.out; first | omega | exact Nat.le_refl _⟩, ⟨by (with_reducible repeat (first | refine blk_drewN ?_ _ | refine blk_drew ?_ | refine blk_alloc ?_ _)); exact BK144.out⟩, ⟨by repeat (first | (with_reducible first | exact HB.out | apply below_alloc | apply pw_below_drewN | apply below_drew1 | refine below_set ?_ GE144.out) | exact HB.out)⟩⟩
                · rw [if_neg c22] at H
                  have c22b0 : (a0_0 == 1) = false := beq_eq_false_iff_ne.mpr c22
                  have c22b1 : (a0_0 != 1) = true := bne_iff_ne.mpr c22
                  (first | rw [c22b0] | (simp only [i64_w, i32_w]; rw [c22b0]) | skip)
                  have H' := Aside0.mk H
                  clear H
                  have hcz24_0 : wc.cell? ⟨gb144, 0, none⟩ = some (.int .i64 a0_0) := (blk_cell BK144.out 0).trans rfl
                  have hcz24_1 : wc.cell? ⟨gb144, 1, none⟩ = some (.int .i64 a0_1) := (blk_cell BK144.out 1).trans rfl
                  have hcz24_2 : wc.cell? ⟨gb144, 2, none⟩ = some (.int .i64 a0_2) := (blk_cell BK144.out 2).trans rfl
                  have hcz24_3 : wc.cell? ⟨gb144, 3, none⟩ = some (.int .i64 a0_3) := (blk_cell BK144.out 3).trans rfl
                  have hcz24_4 : wc.cell? ⟨gb144, 4, none⟩ = some (.int .i64 a0_4) := (blk_cell BK144.out 4).trans rfl
                  have hcz24_5 : wc.cell? ⟨gb144, 5, none⟩ = some (.slice A0_5 l0_5.length c0_5) := (blk_cell BK144.out 5).trans rfl
                  have hfz24_0 := blk_frozen BK144.out 0
                  have hfz24_1 := blk_frozen BK144.out 1
                  have hfz24_2 := blk_frozen BK144.out 2
                  have hfz24_3 := blk_frozen BK144.out 3
                  have hfz24_4 := blk_frozen BK144.out 4
                  have hfz24_5 := blk_frozen BK144.out 5
                  go_wp2
                  repeat (go_quiet (fail); try go_wp2)
                  go_meet
                  case rel => exact ⟨_, ((a0_0 == 2)), (by first | rfl | (simp; done) | (simp [*]; done)), H', ⟨by have := HJ1.out; have := HJ7.out; first | omega | exact Nat.le_refl _⟩, ⟨by (with_reducible repeat (first | refine blk_drewN ?_ _ | refine blk_drew ?_ | refine blk_alloc ?_ _)); exact BK144.out⟩, ⟨by repeat (first | (with_reducible first | exact HB.out | apply below_alloc | apply pw_below_drewN | apply below_drew1 | refine below_set ?_ GE144.out) | exact HB.out)⟩⟩
              case rest =>
                clear HC21
                try clear c1
                try clear c2
                try clear p2
                try clear c4
                try clear c4b0
                try clear c6
                try clear c7
                try clear c9
                try clear c9b0
                try clear c9b1
                try clear c10
                try clear c10b0
                try clear c10b1
                try clear c12
                try clear c12b0
                try clear c12b1
                try clear c14
                try clear c14b0
                try clear c14b1
                try clear c16
                try clear c16b0
                try clear c16b1
                try clear c20
                try clear c22
                try clear c22b0
                try clear c22b1
                try clear hcz11_0
                try clear hcz11_1
                try clear hcz11_2
                try clear hcz11_3
                try clear hcz11_4
                try clear hcz11_5
                try clear hcz13_0
                try clear hcz13_1
                try clear hcz13_2
                try clear hcz13_3
                try clear hcz13_4
                try clear hcz13_5
                try clear hcz15_0
                try clear hcz15_1
                try clear hcz15_2
                try clear hcz15_3
                try clear hcz15_4
                try clear hcz15_5
                try clear hcz17_0
                try clear hcz17_1
                try clear hcz17_2
                try clear hcz17_3
                try clear hcz17_4
                try clear hcz17_5
                try clear hcz18_0
                try clear hcz18_1
                try clear hcz18_2
                try clear hcz18_3
                try clear hcz18_4
                try clear hcz18_5
                try clear hcz19_0
                try clear hcz19_1
                try clear hcz19_2
                try clear hcz19_3
                try clear hcz19_4
                try clear hcz19_5
                try clear hcz23_0
                try clear hcz23_1
                try clear hcz23_2
                try clear hcz23_3
                try clear hcz23_4
                try clear hcz23_5
                try clear hcz24_0
                try clear hcz24_1
                try clear hcz24_2
                try clear hcz24_3
                try clear hcz24_4
                try clear hcz24_5
                try clear hcz5_0
                try clear hcz5_1
                try clear hcz5_2
                try clear hcz5_3
                try clear hcz5_4
                try clear hcz5_5
                try clear hcz6_0
                try clear hcz6_1
                try clear hcz6_2
                try clear hcz6_3
                try clear hcz6_4
                try clear hcz6_5
                try clear hfz11_0
                try clear hfz11_1
                try clear hfz11_2
                try clear hfz11_3
                try clear hfz11_4
                try clear hfz11_5
                try clear hfz13_0
                try clear hfz13_1
                try clear hfz13_2
                try clear hfz13_3
                try clear hfz13_4
                try clear hfz13_5
                try clear hfz15_0
                try clear hfz15_1
                try clear hfz15_2
                try clear hfz15_3
                try clear hfz15_4
                try clear hfz15_5
                try clear hfz17_0
                try clear hfz17_1
                try clear hfz17_2
                try clear hfz17_3
                try clear hfz17_4
                try clear hfz17_5
                try clear hfz18_0
                try clear hfz18_1
                try clear hfz18_2
                try clear hfz18_3
                try clear hfz18_4
                try clear hfz18_5
                try clear hfz19_0
                try clear hfz19_1
                try clear hfz19_2
                try clear hfz19_3
                try clear hfz19_4
                try clear hfz19_5
                try clear hfz23_0
                try clear hfz23_1
                try clear hfz23_2
                try clear hfz23_3
                try clear hfz23_4
                try clear hfz23_5
                try clear hfz24_0
                try clear hfz24_1
                try clear hfz24_2
                try clear hfz24_3
                try clear hfz24_4
                try clear hfz24_5
                try clear hfz5_0
                try clear hfz5_1
                try clear hfz5_2
                try clear hfz5_3
                try clear hfz5_4
                try clear hfz5_5
                try clear hfz6_0
                try clear hfz6_1
                try clear hfz6_2
                try clear hfz6_3
                try clear hfz6_4
                try clear hfz6_5
                try clear p2
                obtain ⟨kq, x46_20, rfl, HA, HJ20, BK144, HB⟩ := hcut
                cases kq with
                | zero => exact absurd HA.out (by simp [passepartoutref04_own.j2])
                | succ kj20 =>
                  have H := HA.out
                  clear HA
                  simp only [passepartoutref04_own.j2] at H
                  have HC25 := Aside0.mk H
                  clear H
                  go_upto_if 46 with (fail)
                  repeat (go_quiet (fail); go_upto_if 46 with (fail))
                  go_cut [] (fun wc => ∃ (kq : Nat), Aside0 (passepartoutref04_own.j4 kq a0_0 a0_1 a0_2 a0_3 a0_4 l0_5 = some r) ∧ Aside0 (kq ≤ kj20) ∧ Aside0 (wc.heap[gb144]? = some (.cells #[.int .i64 a0_0, .int .i64 a0_1, .int .i64 a0_2, .int .i64 a0_3, .int .i64 a0_4, (.slice A0_5 l0_5.length c0_5)] 27 (0, 0))) ∧ Aside0 (Below w.heap.size w wc))
                  case first =>
                    have H := HC25.out
                    clear HC25
                    by_cases c26 : x46_20 = true
                    · subst c26
                      have H1 : (if a0_1 < 1 then (passepartoutref04_own.j3 kj20 true a0_0 a0_1 a0_2 a0_3 a0_4 l0_5) else (passepartoutref04_own.j3 kj20 (decide (a0_1 > 3)) a0_0 a0_1 a0_2 a0_3 a0_4 l0_5)) = some r := by rw [if_pos rfl] at H; exact H
                      clear H
                      have H := H1
                      clear H1
                      have HC27 := Aside0.mk H
                      clear H
                      go_upto_region 6 with (fail)
                      repeat (go_quiet (fail); go_upto_region 6 with (fail))
                      go_cut [54] (fun v54 wc => ∃ (kq : Nat) (x54_26 : Bool), v54 = .bool x54_26 ∧ Aside0 (passepartoutref04_own.j3 kq x54_26 a0_0 a0_1 a0_2 a0_3 a0_4 l0_5 = some r) ∧ Aside0 (kq ≤ kj20) ∧ Aside0 (wc.heap[gb144]? = some (.cells #[.int .i64 a0_0, .int .i64 a0_1, .int .i64 a0_2, .int .i64 a0_3, .int .i64 a0_4, (.slice A0_5 l0_5.length c0_5)] 27 (0, 0))) ∧ Aside0 (Below w.heap.size w wc))
                      case first =>
                        have H := HC27.out
                        clear HC27
                        by_cases c28 : a0_1 < 1
                        · rw [if_pos c28] at H
                          have c28b0 : decide (a0_1 < 1) = true := decide_eq_true c28
                          clear c28
                          (first | rw [c28b0] | (simp only [i64_w, i32_w]; rw [c28b0]) | skip)
                          have H' := Aside0.mk H
                          clear H
                          have hcz29_0 : wc.cell? ⟨gb144, 0, none⟩ = some (.int .i64 a0_0) := (blk_cell BK144.out 0).trans rfl
                          have hcz29_1 : wc.cell? ⟨gb144, 1, none⟩ = some (.int .i64 a0_1) := (blk_cell BK144.out 1).trans rfl
                          have hcz29_2 : wc.cell? ⟨gb144, 2, none⟩ = some (.int .i64 a0_2) := (blk_cell BK144.out 2).trans rfl
                          have hcz29_3 : wc.cell? ⟨gb144, 3, none⟩ = some (.int .i64 a0_3) := (blk_cell BK144.out 3).trans rfl
                          have hcz29_4 : wc.cell? ⟨gb144, 4, none⟩ = some (.int .i64 a0_4) := (blk_cell BK144.out 4).trans rfl
                          have hcz29_5 : wc.cell? ⟨gb144, 5, none⟩ = some (.slice A0_5 l0_5.length c0_5) := (blk_cell BK144.out 5).trans rfl
                          have hfz29_0 := blk_frozen BK144.out 0
                          have hfz29_1 := blk_frozen BK144.out 1
                          have hfz29_2 := blk_frozen BK144.out 2
                          have hfz29_3 := blk_frozen BK144.out 3
                          have hfz29_4 := blk_frozen BK144.out 4
                          have hfz29_5 := blk_frozen BK144.out 5
                          go_wp2
                          repeat (go_quiet (fail); try go_wp2)
                          go_meet
                          case rel => exact ⟨_, (true), (by first | rfl | (simp; done) | (simp [*]; done)), H', ⟨by have := HJ1.out; have := HJ7.out; have := HJ20.out; first | omega | exact Nat.le_refl _⟩, ⟨by (with_reducible repeat (first | refine blk_drewN ?_ _ | refine blk_drew ?_ | refine blk_alloc ?_ _)); exact BK144.out⟩, ⟨by repeat (first | (with_reducible first | exact HB.out | apply below_alloc | apply pw_below_drewN | apply below_drew1 | refine below_set ?_ GE144.out) | exact HB.out)⟩⟩
                        · rw [if_neg c28] at H
                          have c28b0 : decide (a0_1 < 1) = false := decide_eq_false c28
                          clear c28
                          (first | rw [c28b0] | (simp only [i64_w, i32_w]; rw [c28b0]) | skip)
                          have H' := Aside0.mk H
                          clear H
                          have hcz30_0 : wc.cell? ⟨gb144, 0, none⟩ = some (.int .i64 a0_0) := (blk_cell BK144.out 0).trans rfl
                          have hcz30_1 : wc.cell? ⟨gb144, 1, none⟩ = some (.int .i64 a0_1) := (blk_cell BK144.out 1).trans rfl
                          have hcz30_2 : wc.cell? ⟨gb144, 2, none⟩ = some (.int .i64 a0_2) := (blk_cell BK144.out 2).trans rfl
                          have hcz30_3 : wc.cell? ⟨gb144, 3, none⟩ = some (.int .i64 a0_3) := (blk_cell BK144.out 3).trans rfl
                          have hcz30_4 : wc.cell? ⟨gb144, 4, none⟩ = some (.int .i64 a0_4) := (blk_cell BK144.out 4).trans rfl
                          have hcz30_5 : wc.cell? ⟨gb144, 5, none⟩ = some (.slice A0_5 l0_5.length c0_5) := (blk_cell BK144.out 5).trans rfl
                          have hfz30_0 := blk_frozen BK144.out 0
                          have hfz30_1 := blk_frozen BK144.out 1
                          have hfz30_2 := blk_frozen BK144.out 2
                          have hfz30_3 := blk_frozen BK144.out 3
                          have hfz30_4 := blk_frozen BK144.out 4
                          have hfz30_5 := blk_frozen BK144.out 5
                          go_wp2
                          repeat (go_quiet (fail); try go_wp2)
                          go_meet
                          case rel => exact ⟨_, (decide (a0_1 > 3)), (by first | rfl | (simp; done) | (simp [*]; done)), H', ⟨by have := HJ1.out; have := HJ7.out; have := HJ20.out; first | omega | exact Nat.le_refl _⟩, ⟨by (with_reducible repeat (first | refine blk_drewN ?_ _ | refine blk_drew ?_ | refine blk_alloc ?_ _)); exact BK144.out⟩, ⟨by repeat (first | (with_reducible first | exact HB.out | apply below_alloc | apply pw_below_drewN | apply below_drew1 | refine below_set ?_ GE144.out) | exact HB.out)⟩⟩
                      case rest =>
                        clear HC27
                        try clear c1
                        try clear c2
                        try clear p2
                        try clear c4
                        try clear c4b0
                        try clear c6
                        try clear c7
                        try clear c9
                        try clear c9b0
                        try clear c9b1
                        try clear c10
                        try clear c10b0
                        try clear c10b1
                        try clear c12
                        try clear c12b0
                        try clear c12b1
                        try clear c14
                        try clear c14b0
                        try clear c14b1
                        try clear c16
                        try clear c16b0
                        try clear c16b1
                        try clear c20
                        try clear c22
                        try clear c22b0
                        try clear c22b1
                        try clear c26
                        try clear c28
                        try clear c28b0
                        try clear hcz11_0
                        try clear hcz11_1
                        try clear hcz11_2
                        try clear hcz11_3
                        try clear hcz11_4
                        try clear hcz11_5
                        try clear hcz13_0
                        try clear hcz13_1
                        try clear hcz13_2
                        try clear hcz13_3
                        try clear hcz13_4
                        try clear hcz13_5
                        try clear hcz15_0
                        try clear hcz15_1
                        try clear hcz15_2
                        try clear hcz15_3
                        try clear hcz15_4
                        try clear hcz15_5
                        try clear hcz17_0
                        try clear hcz17_1
                        try clear hcz17_2
                        try clear hcz17_3
                        try clear hcz17_4
                        try clear hcz17_5
                        try clear hcz18_0
                        try clear hcz18_1
                        try clear hcz18_2
                        try clear hcz18_3
                        try clear hcz18_4
                        try clear hcz18_5
                        try clear hcz19_0
                        try clear hcz19_1
                        try clear hcz19_2
                        try clear hcz19_3
                        try clear hcz19_4
                        try clear hcz19_5
                        try clear hcz23_0
                        try clear hcz23_1
                        try clear hcz23_2
                        try clear hcz23_3
                        try clear hcz23_4
                        try clear hcz23_5
                        try clear hcz24_0
                        try clear hcz24_1
                        try clear hcz24_2
                        try clear hcz24_3
                        try clear hcz24_4
                        try clear hcz24_5
                        try clear hcz29_0
                        try clear hcz29_1
                        try clear hcz29_2
                        try clear hcz29_3
                        try clear hcz29_4
                        try clear hcz29_5
                        try clear hcz30_0
                        try clear hcz30_1
                        try clear hcz30_2
                        try clear hcz30_3
                        try clear hcz30_4
                        try clear hcz30_5
                        try clear hcz5_0
                        try clear hcz5_1
                        try clear hcz5_2
                        try clear hcz5_3
                        try clear hcz5_4
                        try clear hcz5_5
                        try clear hcz6_0
                        try clear hcz6_1
                        try clear hcz6_2
                        try clear hcz6_3
                        try clear hcz6_4
                        try clear hcz6_5
                        try clear hfz11_0
                        try clear hfz11_1
                        try clear hfz11_2
                        try clear hfz11_3
                        try clear hfz11_4
                        try clear hfz11_5
                        try clear hfz13_0
                        try clear hfz13_1
                        try clear hfz13_2
                        try clear hfz13_3
                        try clear hfz13_4
                        try clear hfz13_5
                        try clear hfz15_0
                        try clear hfz15_1
                        try clear hfz15_2
                        try clear hfz15_3
                        try clear hfz15_4
                        try clear hfz15_5
                        try clear hfz17_0
                        try clear hfz17_1
                        try clear hfz17_2
                        try clear hfz17_3
                        try clear hfz17_4
                        try clear hfz17_5
                        try clear hfz18_0
                        try clear hfz18_1
                        try clear hfz18_2
                        try clear hfz18_3
                        try clear hfz18_4
                        try clear hfz18_5
                        try clear hfz19_0
                        try clear hfz19_1
                        try clear hfz19_2
                        try clear hfz19_3
                        try clear hfz19_4
                        try clear hfz19_5
                        try clear hfz23_0
                        try clear hfz23_1
                        try clear hfz23_2
                        try clear hfz23_3
                        try clear hfz23_4
                        try clear hfz23_5
                        try clear hfz24_0
                        try clear hfz24_1
                        try clear hfz24_2
                        try clear hfz24_3
                        try clear hfz24_4
                        try clear hfz24_5
                        try clear hfz29_0
                        try clear hfz29_1
                        try clear hfz29_2
                        try clear hfz29_3
                        try clear hfz29_4
                        try clear hfz29_5
                        try clear hfz30_0
                        try clear hfz30_1
                        try clear hfz30_2
                        try clear hfz30_3
                        try clear hfz30_4
                        try clear hfz30_5
                        try clear hfz5_0
                        try clear hfz5_1
                        try clear hfz5_2
                        try clear hfz5_3
                        try clear hfz5_4
                        try clear hfz5_5
                        try clear hfz6_0
                        try clear hfz6_1
                        try clear hfz6_2
                        try clear hfz6_3
                        try clear hfz6_4
                        try clear hfz6_5
                        try clear p2
                        obtain ⟨kq, x54_26, rfl, HA, HJ26, BK144, HB⟩ := hcut
                        cases kq with
                        | zero => exact absurd HA.out (by simp [passepartoutref04_own.j3])
                        | succ kj26 =>
                          have H := HA.out
                          clear HA
                          simp only [passepartoutref04_own.j3] at H
                          by_cases c31 : x54_26 = true
                          · subst c31
                            have H1 : (some 3) = some r := by rw [if_pos rfl] at H; exact H
                            clear H
                            have H := H1
                            clear H1
                            obtain rfl := Option.some.inj H
                            go_wp2
                            repeat (go_quiet (fail); try go_wp2)
                            go_ret
                            exact ⟨by first | rfl | (simp [errW_none, errW_some] <;> rfl) | (simp [*, errW_none, errW_some] <;> rfl), by repeat (first | (with_reducible first | exact HB.out | apply below_alloc | apply pw_below_drewN | apply below_drew1 | refine below_set ?_ GE144.out) | exact HB.out)⟩
                          · replace c31 := Bool.eq_false_iff.mpr c31
                            subst c31
                            have H1 : (if a0_2 < 0 then (some 5) else (if a0_3 < a0_2 then (some 5) else ((passepartoutref04_top.f kj26 a0_1).bind fun t145 => (if a0_3 > t145 then (some 5) else (if a0_4 < 1 then (some 5) else (if a0_4 > 65536 then (some 5) else (passepartoutref04_own.j4 kj26 a0_0 a0_1 a0_2 a0_3 a0_4 l0_5))))))) = some r := by rw [if_neg (show ¬ (false = true) by decide)] at H; exact H
                            clear H
                            have H := H1
                            clear H1
                            by_cases c32 : a0_2 < 0
                            · rw [if_pos c32] at H
                              have c32b0 : decide (a0_2 < 0) = true := decide_eq_true c32
                              clear c32
                              obtain rfl := Option.some.inj H
                              have hcz33_0 : wc.cell? ⟨gb144, 0, none⟩ = some (.int .i64 a0_0) := (blk_cell BK144.out 0).trans rfl
                              have hcz33_1 : wc.cell? ⟨gb144, 1, none⟩ = some (.int .i64 a0_1) := (blk_cell BK144.out 1).trans rfl
                              have hcz33_2 : wc.cell? ⟨gb144, 2, none⟩ = some (.int .i64 a0_2) := (blk_cell BK144.out 2).trans rfl
                              have hcz33_3 : wc.cell? ⟨gb144, 3, none⟩ = some (.int .i64 a0_3) := (blk_cell BK144.out 3).trans rfl
                              have hcz33_4 : wc.cell? ⟨gb144, 4, none⟩ = some (.int .i64 a0_4) := (blk_cell BK144.out 4).trans rfl
                              have hcz33_5 : wc.cell? ⟨gb144, 5, none⟩ = some (.slice A0_5 l0_5.length c0_5) := (blk_cell BK144.out 5).trans rfl
                              have hfz33_0 := blk_frozen BK144.out 0
                              have hfz33_1 := blk_frozen BK144.out 1
                              have hfz33_2 := blk_frozen BK144.out 2
                              have hfz33_3 := blk_frozen BK144.out 3
                              have hfz33_4 := blk_frozen BK144.out 4
                              have hfz33_5 := blk_frozen BK144.out 5
                              go_wp2
                              repeat (go_quiet (fail); try go_wp2)
                              go_ret
                              exact ⟨by first | rfl | (simp [errW_none, errW_some] <;> rfl) | (simp [*, errW_none, errW_some] <;> rfl), by repeat (first | (with_reducible first | exact HB.out | apply below_alloc | apply pw_below_drewN | apply below_drew1 | refine below_set ?_ GE144.out) | exact HB.out)⟩
                            · rw [if_neg c32] at H
                              have c32b0 : decide (a0_2 < 0) = false := decide_eq_false c32
                              clear c32
                              by_cases c34 : a0_3 < a0_2
                              · rw [if_pos c34] at H
                                have c34b0 : decide (a0_3 < a0_2) = true := decide_eq_true c34
                                clear c34
                                obtain rfl := Option.some.inj H
                                have hcz35_0 : wc.cell? ⟨gb144, 0, none⟩ = some (.int .i64 a0_0) := (blk_cell BK144.out 0).trans rfl
                                have hcz35_1 : wc.cell? ⟨gb144, 1, none⟩ = some (.int .i64 a0_1) := (blk_cell BK144.out 1).trans rfl
                                have hcz35_2 : wc.cell? ⟨gb144, 2, none⟩ = some (.int .i64 a0_2) := (blk_cell BK144.out 2).trans rfl
                                have hcz35_3 : wc.cell? ⟨gb144, 3, none⟩ = some (.int .i64 a0_3) := (blk_cell BK144.out 3).trans rfl
                                have hcz35_4 : wc.cell? ⟨gb144, 4, none⟩ = some (.int .i64 a0_4) := (blk_cell BK144.out 4).trans rfl
                                have hcz35_5 : wc.cell? ⟨gb144, 5, none⟩ = some (.slice A0_5 l0_5.length c0_5) := (blk_cell BK144.out 5).trans rfl
                                have hfz35_0 := blk_frozen BK144.out 0
                                have hfz35_1 := blk_frozen BK144.out 1
                                have hfz35_2 := blk_frozen BK144.out 2
                                have hfz35_3 := blk_frozen BK144.out 3
                                have hfz35_4 := blk_frozen BK144.out 4
                                have hfz35_5 := blk_frozen BK144.out 5
                                go_wp2
                                repeat (go_quiet (fail); try go_wp2)
                                go_ret
                                exact ⟨by first | rfl | (simp [errW_none, errW_some] <;> rfl) | (simp [*, errW_none, errW_some] <;> rfl), by repeat (first | (with_reducible first | exact HB.out | apply below_alloc | apply pw_below_drewN | apply below_drew1 | refine below_set ?_ GE144.out) | exact HB.out)⟩
                              · rw [if_neg c34] at H
                                have c34b0 : decide (a0_3 < a0_2) = false := decide_eq_false c34
                                clear c34
                                replace H := Option.bind_eq_some_iff.mp H
                                obtain ⟨t145, A360, H⟩ := H
                                replace H : (if a0_3 > t145 then (some 5) else (if a0_4 < 1 then (some 5) else (if a0_4 > 65536 then (some 5) else (passepartoutref04_own.j4 kj26 a0_0 a0_1 a0_2 a0_3 a0_4 l0_5)))) = some r := H
                                have A36 := Aside0.mk A360
                                clear A360
                                by_cases c37 : a0_3 > t145
                                · rw [if_pos c37] at H
                                  have c37b0 : decide (t145 < a0_3) = true := decide_eq_true c37
                                  clear c37
                                  obtain rfl := Option.some.inj H
                                  have hcz38_0 : wc.cell? ⟨gb144, 0, none⟩ = some (.int .i64 a0_0) := (blk_cell BK144.out 0).trans rfl
                                  have hcz38_1 : wc.cell? ⟨gb144, 1, none⟩ = some (.int .i64 a0_1) := (blk_cell BK144.out 1).trans rfl
                                  have hcz38_2 : wc.cell? ⟨gb144, 2, none⟩ = some (.int .i64 a0_2) := (blk_cell BK144.out 2).trans rfl
                                  have hcz38_3 : wc.cell? ⟨gb144, 3, none⟩ = some (.int .i64 a0_3) := (blk_cell BK144.out 3).trans rfl
                                  have hcz38_4 : wc.cell? ⟨gb144, 4, none⟩ = some (.int .i64 a0_4) := (blk_cell BK144.out 4).trans rfl
                                  have hcz38_5 : wc.cell? ⟨gb144, 5, none⟩ = some (.slice A0_5 l0_5.length c0_5) := (blk_cell BK144.out 5).trans rfl
                                  have hfz38_0 := blk_frozen BK144.out 0
                                  have hfz38_1 := blk_frozen BK144.out 1
                                  have hfz38_2 := blk_frozen BK144.out 2
                                  have hfz38_3 := blk_frozen BK144.out 3
                                  have hfz38_4 := blk_frozen BK144.out 4
                                  have hfz38_5 := blk_frozen BK144.out 5
                                  go_wp2_with (first | (go_at_call 69; (with_reducible refine (passepartoutref04_top.calls kj26 a0_1 t145 _ A36.out).mono ?_); rintro e w' ⟨rfl, ⟨nd, rfl⟩⟩; (try first | exact ⟨rfl, _, World.drewN_drewN _ _ _⟩ | exact ⟨rfl, _, Eq.trans (World.drewN_drewN _ _ _) (congrArg (World.drewN _) (Nat.add_assoc _ _ _))⟩)))
                                  repeat (go_quiet (first | (go_at_call 69; (with_reducible refine (passepartoutref04_top.calls kj26 a0_1 t145 _ A36.out).mono ?_); rintro e w' ⟨rfl, ⟨nd, rfl⟩⟩; (try first | exact ⟨rfl, _, World.drewN_drewN _ _ _⟩ | exact ⟨rfl, _, Eq.trans (World.drewN_drewN _ _ _) (congrArg (World.drewN _) (Nat.add_assoc _ _ _))⟩))); try go_wp2_with (first | (go_at_call 69; (with_reducible refine (passepartoutref04_top.calls kj26 a0_1 t145 _ A36.out).mono ?_); rintro e w' ⟨rfl, ⟨nd, rfl⟩⟩; (try first | exact ⟨rfl, _, World.drewN_drewN _ _ _⟩ | exact ⟨rfl, _, Eq.trans (World.drewN_drewN _ _ _) (congrArg (World.drewN _) (Nat.add_assoc _ _ _))⟩))))
                                  go_ret
                                  exact ⟨by first | rfl | (simp [errW_none, errW_some] <;> rfl) | (simp [*, errW_none, errW_some] <;> rfl), by repeat (first | (with_reducible first | exact HB.out | apply below_alloc | apply pw_below_drewN | apply below_drew1 | refine below_set ?_ GE144.out) | exact HB.out)⟩
                                · rw [if_neg c37] at H
                                  have c37b0 : decide (t145 < a0_3) = false := decide_eq_false c37
                                  clear c37
                                  by_cases c39 : a0_4 < 1
                                  · rw [if_pos c39] at H
                                    have c39b0 : decide (a0_4 < 1) = true := decide_eq_true c39
                                    clear c39
                                    obtain rfl := Option.some.inj H
                                    have hcz40_0 : wc.cell? ⟨gb144, 0, none⟩ = some (.int .i64 a0_0) := (blk_cell BK144.out 0).trans rfl
                                    have hcz40_1 : wc.cell? ⟨gb144, 1, none⟩ = some (.int .i64 a0_1) := (blk_cell BK144.out 1).trans rfl
                                    have hcz40_2 : wc.cell? ⟨gb144, 2, none⟩ = some (.int .i64 a0_2) := (blk_cell BK144.out 2).trans rfl
                                    have hcz40_3 : wc.cell? ⟨gb144, 3, none⟩ = some (.int .i64 a0_3) := (blk_cell BK144.out 3).trans rfl
                                    have hcz40_4 : wc.cell? ⟨gb144, 4, none⟩ = some (.int .i64 a0_4) := (blk_cell BK144.out 4).trans rfl
                                    have hcz40_5 : wc.cell? ⟨gb144, 5, none⟩ = some (.slice A0_5 l0_5.length c0_5) := (blk_cell BK144.out 5).trans rfl
                                    have hfz40_0 := blk_frozen BK144.out 0
                                    have hfz40_1 := blk_frozen BK144.out 1
                                    have hfz40_2 := blk_frozen BK144.out 2
                                    have hfz40_3 := blk_frozen BK144.out 3
                                    have hfz40_4 := blk_frozen BK144.out 4
                                    have hfz40_5 := blk_frozen BK144.out 5
                                    go_wp2_with (first | (go_at_call 69; (with_reducible refine (passepartoutref04_top.calls kj26 a0_1 t145 _ A36.out).mono ?_); rintro e w' ⟨rfl, ⟨nd, rfl⟩⟩; (try first | exact ⟨rfl, _, World.drewN_drewN _ _ _⟩ | exact ⟨rfl, _, Eq.trans (World.drewN_drewN _ _ _) (congrArg (World.drewN _) (Nat.add_assoc _ _ _))⟩)))
                                    repeat (go_quiet (first | (go_at_call 69; (with_reducible refine (passepartoutref04_top.calls kj26 a0_1 t145 _ A36.out).mono ?_); rintro e w' ⟨rfl, ⟨nd, rfl⟩⟩; (try first | exact ⟨rfl, _, World.drewN_drewN _ _ _⟩ | exact ⟨rfl, _, Eq.trans (World.drewN_drewN _ _ _) (congrArg (World.drewN _) (Nat.add_assoc _ _ _))⟩))); try go_wp2_with (first | (go_at_call 69; (with_reducible refine (passepartoutref04_top.calls kj26 a0_1 t145 _ A36.out).mono ?_); rintro e w' ⟨rfl, ⟨nd, rfl⟩⟩; (try first | exact ⟨rfl, _, World.drewN_drewN _ _ _⟩ | exact ⟨rfl, _, Eq.trans (World.drewN_drewN _ _ _) (congrArg (World.drewN _) (Nat.add_assoc _ _ _))⟩))))
                                    go_ret
                                    exact ⟨by first | rfl | (simp [errW_none, errW_some] <;> rfl) | (simp [*, errW_none, errW_some] <;> rfl), by repeat (first | (with_reducible first | exact HB.out | apply below_alloc | apply pw_below_drewN | apply below_drew1 | refine below_set ?_ GE144.out) | exact HB.out)⟩
                                  · rw [if_neg c39] at H
                                    have c39b0 : decide (a0_4 < 1) = false := decide_eq_false c39
                                    clear c39
                                    by_cases c41 : a0_4 > 65536
                                    · rw [if_pos c41] at H
                                      have c41b0 : decide (65536 < a0_4) = true := decide_eq_true c41
                                      clear c41
                                      obtain rfl := Option.some.inj H
                                      have hcz42_0 : wc.cell? ⟨gb144, 0, none⟩ = some (.int .i64 a0_0) := (blk_cell BK144.out 0).trans rfl
                                      have hcz42_1 : wc.cell? ⟨gb144, 1, none⟩ = some (.int .i64 a0_1) := (blk_cell BK144.out 1).trans rfl
                                      have hcz42_2 : wc.cell? ⟨gb144, 2, none⟩ = some (.int .i64 a0_2) := (blk_cell BK144.out 2).trans rfl
                                      have hcz42_3 : wc.cell? ⟨gb144, 3, none⟩ = some (.int .i64 a0_3) := (blk_cell BK144.out 3).trans rfl
                                      have hcz42_4 : wc.cell? ⟨gb144, 4, none⟩ = some (.int .i64 a0_4) := (blk_cell BK144.out 4).trans rfl
                                      have hcz42_5 : wc.cell? ⟨gb144, 5, none⟩ = some (.slice A0_5 l0_5.length c0_5) := (blk_cell BK144.out 5).trans rfl
                                      have hfz42_0 := blk_frozen BK144.out 0
                                      have hfz42_1 := blk_frozen BK144.out 1
                                      have hfz42_2 := blk_frozen BK144.out 2
                                      have hfz42_3 := blk_frozen BK144.out 3
                                      have hfz42_4 := blk_frozen BK144.out 4
                                      have hfz42_5 := blk_frozen BK144.out 5
                                      go_wp2_with (first | (go_at_call 69; (with_reducible refine (passepartoutref04_top.calls kj26 a0_1 t145 _ A36.out).mono ?_); rintro e w' ⟨rfl, ⟨nd, rfl⟩⟩; (try first | exact ⟨rfl, _, World.drewN_drewN _ _ _⟩ | exact ⟨rfl, _, Eq.trans (World.drewN_drewN _ _ _) (congrArg (World.drewN _) (Nat.add_assoc _ _ _))⟩)))
                                      repeat (go_quiet (first | (go_at_call 69; (with_reducible refine (passepartoutref04_top.calls kj26 a0_1 t145 _ A36.out).mono ?_); rintro e w' ⟨rfl, ⟨nd, rfl⟩⟩; (try first | exact ⟨rfl, _, World.drewN_drewN _ _ _⟩ | exact ⟨rfl, _, Eq.trans (World.drewN_drewN _ _ _) (congrArg (World.drewN _) (Nat.add_assoc _ _ _))⟩))); try go_wp2_with (first | (go_at_call 69; (with_reducible refine (passepartoutref04_top.calls kj26 a0_1 t145 _ A36.out).mono ?_); rintro e w' ⟨rfl, ⟨nd, rfl⟩⟩; (try first | exact ⟨rfl, _, World.drewN_drewN _ _ _⟩ | exact ⟨rfl, _, Eq.trans (World.drewN_drewN _ _ _) (congrArg (World.drewN _) (Nat.add_assoc _ _ _))⟩))))
                                      go_ret
                                      exact ⟨by first | rfl | (simp [errW_none, errW_some] <;> rfl) | (simp [*, errW_none, errW_some] <;> rfl), by repeat (first | (with_reducible first | exact HB.out | apply below_alloc | apply pw_below_drewN | apply below_drew1 | refine below_set ?_ GE144.out) | exact HB.out)⟩
                                    · rw [if_neg c41] at H
                                      have c41b0 : decide (65536 < a0_4) = false := decide_eq_false c41
                                      clear c41
                                      have H' := Aside0.mk H
                                      clear H
                                      have hcz43_0 : wc.cell? ⟨gb144, 0, none⟩ = some (.int .i64 a0_0) := (blk_cell BK144.out 0).trans rfl
                                      have hcz43_1 : wc.cell? ⟨gb144, 1, none⟩ = some (.int .i64 a0_1) := (blk_cell BK144.out 1).trans rfl
                                      have hcz43_2 : wc.cell? ⟨gb144, 2, none⟩ = some (.int .i64 a0_2) := (blk_cell BK144.out 2).trans rfl
                                      have hcz43_3 : wc.cell? ⟨gb144, 3, none⟩ = some (.int .i64 a0_3) := (blk_cell BK144.out 3).trans rfl
                                      have hcz43_4 : wc.cell? ⟨gb144, 4, none⟩ = some (.int .i64 a0_4) := (blk_cell BK144.out 4).trans rfl
                                      have hcz43_5 : wc.cell? ⟨gb144, 5, none⟩ = some (.slice A0_5 l0_5.length c0_5) := (blk_cell BK144.out 5).trans rfl
                                      have hfz43_0 := blk_frozen BK144.out 0
                                      have hfz43_1 := blk_frozen BK144.out 1
                                      have hfz43_2 := blk_frozen BK144.out 2
                                      have hfz43_3 := blk_frozen BK144.out 3
                                      have hfz43_4 := blk_frozen BK144.out 4
                                      have hfz43_5 := blk_frozen BK144.out 5
                                      go_wp2_with (first | (go_at_call 69; (with_reducible refine (passepartoutref04_top.calls kj26 a0_1 t145 _ A36.out).mono ?_); rintro e w' ⟨rfl, ⟨nd, rfl⟩⟩; (try first | exact ⟨rfl, _, World.drewN_drewN _ _ _⟩ | exact ⟨rfl, _, Eq.trans (World.drewN_drewN _ _ _) (congrArg (World.drewN _) (Nat.add_assoc _ _ _))⟩)))
                                      repeat (go_quiet (first | (go_at_call 69; (with_reducible refine (passepartoutref04_top.calls kj26 a0_1 t145 _ A36.out).mono ?_); rintro e w' ⟨rfl, ⟨nd, rfl⟩⟩; (try first | exact ⟨rfl, _, World.drewN_drewN _ _ _⟩ | exact ⟨rfl, _, Eq.trans (World.drewN_drewN _ _ _) (congrArg (World.drewN _) (Nat.add_assoc _ _ _))⟩))); try go_wp2_with (first | (go_at_call 69; (with_reducible refine (passepartoutref04_top.calls kj26 a0_1 t145 _ A36.out).mono ?_); rintro e w' ⟨rfl, ⟨nd, rfl⟩⟩; (try first | exact ⟨rfl, _, World.drewN_drewN _ _ _⟩ | exact ⟨rfl, _, Eq.trans (World.drewN_drewN _ _ _) (congrArg (World.drewN _) (Nat.add_assoc _ _ _))⟩))))
                                      go_meet
                                      case rel => exact ⟨_, H', ⟨by have := HJ1.out; have := HJ7.out; have := HJ20.out; have := HJ26.out; first | omega | exact Nat.le_refl _⟩, ⟨by (with_reducible repeat (first | refine blk_drewN ?_ _ | refine blk_drew ?_ | refine blk_alloc ?_ _)); exact BK144.out⟩, ⟨by repeat (first | (with_reducible first | exact HB.out | apply below_alloc | apply pw_below_drewN | apply below_drew1 | refine below_set ?_ GE144.out) | exact HB.out)⟩⟩
                    · replace c26 := Bool.eq_false_iff.mpr c26
                      subst c26
                      have H1 : (passepartoutref04_own.j4 kj20 a0_0 a0_1 a0_2 a0_3 a0_4 l0_5) = some r := by rw [if_neg (show ¬ (false = true) by decide)] at H; exact H
                      clear H
                      have H := H1
                      clear H1
                      have H' := Aside0.mk H
                      clear H
                      go_wp2
                      repeat (go_quiet (fail); try go_wp2)
                      go_meet
                      case rel => exact ⟨_, H', ⟨by have := HJ1.out; have := HJ7.out; have := HJ20.out; first | omega | exact Nat.le_refl _⟩, ⟨by (with_reducible repeat (first | refine blk_drewN ?_ _ | refine blk_drew ?_ | refine blk_alloc ?_ _)); exact BK144.out⟩, ⟨by repeat (first | (with_reducible first | exact HB.out | apply below_alloc | apply pw_below_drewN | apply below_drew1 | refine below_set ?_ GE144.out) | exact HB.out)⟩⟩
                  case rest =>
                    clear HC25
                    try clear c1
                    try clear c2
                    try clear p2
                    try clear c3
                    try clear c4
                    try clear c4b0
                    try clear c6
                    try clear c7
                    try clear c9
                    try clear c9b0
                    try clear c9b1
                    try clear c10
                    try clear c10b0
                    try clear c10b1
                    try clear c12
                    try clear c12b0
                    try clear c12b1
                    try clear c14
                    try clear c14b0
                    try clear c14b1
                    try clear c16
                    try clear c16b0
                    try clear c16b1
                    try clear c20
                    try clear c22
                    try clear c22b0
                    try clear c22b1
                    try clear c26
                    try clear c28
                    try clear c28b0
                    try clear c31
                    try clear c32
                    try clear c32b0
                    try clear c34
                    try clear c34b0
                    try clear c37
                    try clear c37b0
                    try clear c39
                    try clear c39b0
                    try clear c41
                    try clear c41b0
                    try clear hcz11_0
                    try clear hcz11_1
                    try clear hcz11_2
                    try clear hcz11_3
                    try clear hcz11_4
                    try clear hcz11_5
                    try clear hcz13_0
                    try clear hcz13_1
                    try clear hcz13_2
                    try clear hcz13_3
                    try clear hcz13_4
                    try clear hcz13_5
                    try clear hcz15_0
                    try clear hcz15_1
                    try clear hcz15_2
                    try clear hcz15_3
                    try clear hcz15_4
                    try clear hcz15_5
                    try clear hcz17_0
                    try clear hcz17_1
                    try clear hcz17_2
                    try clear hcz17_3
                    try clear hcz17_4
                    try clear hcz17_5
                    try clear hcz18_0
                    try clear hcz18_1
                    try clear hcz18_2
                    try clear hcz18_3
                    try clear hcz18_4
                    try clear hcz18_5
                    try clear hcz19_0
                    try clear hcz19_1
                    try clear hcz19_2
                    try clear hcz19_3
                    try clear hcz19_4
                    try clear hcz19_5
                    try clear hcz23_0
                    try clear hcz23_1
                    try clear hcz23_2
                    try clear hcz23_3
                    try clear hcz23_4
                    try clear hcz23_5
                    try clear hcz24_0
                    try clear hcz24_1
                    try clear hcz24_2
                    try clear hcz24_3
                    try clear hcz24_4
                    try clear hcz24_5
                    try clear hcz29_0
                    try clear hcz29_1
                    try clear hcz29_2
                    try clear hcz29_3
                    try clear hcz29_4
                    try clear hcz29_5
                    try clear hcz30_0
                    try clear hcz30_1
                    try clear hcz30_2
                    try clear hcz30_3
                    try clear hcz30_4
                    try clear hcz30_5
                    try clear hcz33_0
                    try clear hcz33_1
                    try clear hcz33_2
                    try clear hcz33_3
                    try clear hcz33_4
                    try clear hcz33_5
                    try clear hcz35_0
                    try clear hcz35_1
                    try clear hcz35_2
                    try clear hcz35_3
                    try clear hcz35_4
                    try clear hcz35_5
                    try clear hcz38_0
                    try clear hcz38_1
                    try clear hcz38_2
                    try clear hcz38_3
                    try clear hcz38_4
                    try clear hcz38_5
                    try clear hcz40_0
                    try clear hcz40_1
                    try clear hcz40_2
                    try clear hcz40_3
                    try clear hcz40_4
                    try clear hcz40_5
                    try clear hcz42_0
                    try clear hcz42_1
                    try clear hcz42_2
                    try clear hcz42_3
                    try clear hcz42_4
                    try clear hcz42_5
                    try clear hcz43_0
                    try clear hcz43_1
                    try clear hcz43_2
                    try clear hcz43_3
                    try clear hcz43_4
                    try clear hcz43_5
                    try clear hcz5_0
                    try clear hcz5_1
                    try clear hcz5_2
                    try clear hcz5_3
                    try clear hcz5_4
                    try clear hcz5_5
                    try clear hcz6_0
                    try clear hcz6_1
                    try clear hcz6_2
                    try clear hcz6_3
                    try clear hcz6_4
                    try clear hcz6_5
                    try clear hfz11_0
                    try clear hfz11_1
                    try clear hfz11_2
                    try clear hfz11_3
                    try clear hfz11_4
                    try clear hfz11_5
                    try clear hfz13_0
                    try clear hfz13_1
                    try clear hfz13_2
                    try clear hfz13_3
                    try clear hfz13_4
                    try clear hfz13_5
                    try clear hfz15_0
                    try clear hfz15_1
                    try clear hfz15_2
                    try clear hfz15_3
                    try clear hfz15_4
                    try clear hfz15_5
                    try clear hfz17_0
                    try clear hfz17_1
                    try clear hfz17_2
                    try clear hfz17_3
                    try clear hfz17_4
                    try clear hfz17_5
                    try clear hfz18_0
                    try clear hfz18_1
                    try clear hfz18_2
                    try clear hfz18_3
                    try clear hfz18_4
                    try clear hfz18_5
                    try clear hfz19_0
                    try clear hfz19_1
                    try clear hfz19_2
                    try clear hfz19_3
                    try clear hfz19_4
                    try clear hfz19_5
                    try clear hfz23_0
                    try clear hfz23_1
                    try clear hfz23_2
                    try clear hfz23_3
                    try clear hfz23_4
                    try clear hfz23_5
                    try clear hfz24_0
                    try clear hfz24_1
                    try clear hfz24_2
                    try clear hfz24_3
                    try clear hfz24_4
                    try clear hfz24_5
                    try clear hfz29_0
                    try clear hfz29_1
                    try clear hfz29_2
                    try clear hfz29_3
                    try clear hfz29_4
                    try clear hfz29_5
                    try clear hfz30_0
                    try clear hfz30_1
                    try clear hfz30_2
                    try clear hfz30_3
                    try clear hfz30_4
                    try clear hfz30_5
                    try clear hfz33_0
                    try clear hfz33_1
                    try clear hfz33_2
                    try clear hfz33_3
                    try clear hfz33_4
                    try clear hfz33_5
                    try clear hfz35_0
                    try clear hfz35_1
                    try clear hfz35_2
                    try clear hfz35_3
                    try clear hfz35_4
                    try clear hfz35_5
                    try clear hfz38_0
                    try clear hfz38_1
                    try clear hfz38_2
                    try clear hfz38_3
                    try clear hfz38_4
                    try clear hfz38_5
                    try clear hfz40_0
                    try clear hfz40_1
                    try clear hfz40_2
                    try clear hfz40_3
                    try clear hfz40_4
                    try clear hfz40_5
                    try clear hfz42_0
                    try clear hfz42_1
                    try clear hfz42_2
                    try clear hfz42_3
                    try clear hfz42_4
                    try clear hfz42_5
                    try clear hfz43_0
                    try clear hfz43_1
                    try clear hfz43_2
                    try clear hfz43_3
                    try clear hfz43_4
                    try clear hfz43_5
                    try clear hfz5_0
                    try clear hfz5_1
                    try clear hfz5_2
                    try clear hfz5_3
                    try clear hfz5_4
                    try clear hfz5_5
                    try clear hfz6_0
                    try clear hfz6_1
                    try clear hfz6_2
                    try clear hfz6_3
                    try clear hfz6_4
                    try clear hfz6_5
                    try clear p2
                    obtain ⟨kq, HA, HJ24, BK144, HB⟩ := hcut
                    cases kq with
                    | zero => exact absurd HA.out (by simp [passepartoutref04_own.j4])
                    | succ kj24 =>
                      have H := HA.out
                      clear HA
                      simp only [passepartoutref04_own.j4] at H
                      have HC44 := Aside0.mk H
                      clear H
                      go_upto_region 10 with (fail)
                      repeat (go_quiet (fail); go_upto_region 10 with (fail))
                      go_cut [102] (fun v102 wc => ∃ (kq : Nat) (x102_43 : Bool), v102 = .bool x102_43 ∧ Aside0 (passepartoutref04_own.j5 kq x102_43 a0_0 a0_1 a0_2 a0_3 a0_4 l0_5 = some r) ∧ Aside0 (kq ≤ kj24) ∧ Aside0 (wc.heap[gb144]? = some (.cells #[.int .i64 a0_0, .int .i64 a0_1, .int .i64 a0_2, .int .i64 a0_3, .int .i64 a0_4, (.slice A0_5 l0_5.length c0_5)] 27 (0, 0))) ∧ Aside0 (Below w.heap.size w wc))
                      case first =>
                        have H := HC44.out
                        clear HC44
                        by_cases c45 : a0_0 = 4
                        · rw [if_pos c45] at H
                          have c45b0 : (a0_0 == 4) = true := beq_iff_eq.mpr c45
                          have c45b1 : (a0_0 != 4) = false := bne_eq_false_iff_eq.mpr c45
                          clear c45
                          (first | rw [c45b0] | (simp only [i64_w, i32_w]; rw [c45b0]) | skip)
                          by_cases c46 : a0_2 < 0
                          · rw [if_pos c46] at H
                            have c46b0 : decide (a0_2 < 0) = true := decide_eq_true c46
                            clear c46
                            have H' := Aside0.mk H
                            clear H
                            have hcz47_0 : wc.cell? ⟨gb144, 0, none⟩ = some (.int .i64 a0_0) := (blk_cell BK144.out 0).trans rfl
                            have hcz47_1 : wc.cell? ⟨gb144, 1, none⟩ = some (.int .i64 a0_1) := (blk_cell BK144.out 1).trans rfl
                            have hcz47_2 : wc.cell? ⟨gb144, 2, none⟩ = some (.int .i64 a0_2) := (blk_cell BK144.out 2).trans rfl
                            have hcz47_3 : wc.cell? ⟨gb144, 3, none⟩ = some (.int .i64 a0_3) := (blk_cell BK144.out 3).trans rfl
                            have hcz47_4 : wc.cell? ⟨gb144, 4, none⟩ = some (.int .i64 a0_4) := (blk_cell BK144.out 4).trans rfl
                            have hcz47_5 : wc.cell? ⟨gb144, 5, none⟩ = some (.slice A0_5 l0_5.length c0_5) := (blk_cell BK144.out 5).trans rfl
                            have hfz47_0 := blk_frozen BK144.out 0
                            have hfz47_1 := blk_frozen BK144.out 1
                            have hfz47_2 := blk_frozen BK144.out 2
                            have hfz47_3 := blk_frozen BK144.out 3
                            have hfz47_4 := blk_frozen BK144.out 4
                            have hfz47_5 := blk_frozen BK144.out 5
                            go_wp2
                            repeat (go_quiet (fail); try go_wp2)
                            go_meet
                            case rel => exact ⟨_, (true), (by first | rfl | (simp; done) | (simp [*]; done)), H', ⟨by have := HJ1.out; have := HJ7.out; have := HJ20.out; have := HJ24.out; first | omega | exact Nat.le_refl _⟩, ⟨by (with_reducible repeat (first | refine blk_drewN ?_ _ | refine blk_drew ?_ | refine blk_alloc ?_ _)); exact BK144.out⟩, ⟨by repeat (first | (with_reducible first | exact HB.out | apply below_alloc | apply pw_below_drewN | apply below_drew1 | refine below_set ?_ GE144.out) | exact HB.out)⟩⟩
                          · rw [if_neg c46] at H
                            have c46b0 : decide (a0_2 < 0) = false := decide_eq_false c46
                            clear c46
                            by_cases c48 : a0_3 < a0_2
                            · rw [if_pos c48] at H
                              have c48b0 : decide (a0_3 < a0_2) = true := decide_eq_true c48
                              clear c48
                              have H' := Aside0.mk H
                              clear H
                              have hcz49_0 : wc.cell? ⟨gb144, 0, none⟩ = some (.int .i64 a0_0) := (blk_cell BK144.out 0).trans rfl
                              have hcz49_1 : wc.cell? ⟨gb144, 1, none⟩ = some (.int .i64 a0_1) := (blk_cell BK144.out 1).trans rfl
                              have hcz49_2 : wc.cell? ⟨gb144, 2, none⟩ = some (.int .i64 a0_2) := (blk_cell BK144.out 2).trans rfl
                              have hcz49_3 : wc.cell? ⟨gb144, 3, none⟩ = some (.int .i64 a0_3) := (blk_cell BK144.out 3).trans rfl
                              have hcz49_4 : wc.cell? ⟨gb144, 4, none⟩ = some (.int .i64 a0_4) := (blk_cell BK144.out 4).trans rfl
                              have hcz49_5 : wc.cell? ⟨gb144, 5, none⟩ = some (.slice A0_5 l0_5.length c0_5) := (blk_cell BK144.out 5).trans rfl
                              have hfz49_0 := blk_frozen BK144.out 0
                              have hfz49_1 := blk_frozen BK144.out 1
                              have hfz49_2 := blk_frozen BK144.out 2
                              have hfz49_3 := blk_frozen BK144.out 3
                              have hfz49_4 := blk_frozen BK144.out 4
                              have hfz49_5 := blk_frozen BK144.out 5
                              go_wp2
                              repeat (go_quiet (fail); try go_wp2)
                              go_meet
                              case rel => exact ⟨_, (true), (by first | rfl | (simp; done) | (simp [*]; done)), H', ⟨by have := HJ1.out; have := HJ7.out; have := HJ20.out; have := HJ24.out; first | omega | exact Nat.le_refl _⟩, ⟨by (with_reducible repeat (first | refine blk_drewN ?_ _ | refine blk_drew ?_ | refine blk_alloc ?_ _)); exact BK144.out⟩, ⟨by repeat (first | (with_reducible first | exact HB.out | apply below_alloc | apply pw_below_drewN | apply below_drew1 | refine below_set ?_ GE144.out) | exact HB.out)⟩⟩
                            · rw [if_neg c48] at H
                              have c48b0 : decide (a0_3 < a0_2) = false := decide_eq_false c48
                              clear c48
                              have H' := Aside0.mk H
                              clear H
                              have hcz50_0 : wc.cell? ⟨gb144, 0, none⟩ = some (.int .i64 a0_0) := (blk_cell BK144.out 0).trans rfl
                              have hcz50_1 : wc.cell? ⟨gb144, 1, none⟩ = some (.int .i64 a0_1) := (blk_cell BK144.out 1).trans rfl
                              have hcz50_2 : wc.cell? ⟨gb144, 2, none⟩ = some (.int .i64 a0_2) := (blk_cell BK144.out 2).trans rfl
                              have hcz50_3 : wc.cell? ⟨gb144, 3, none⟩ = some (.int .i64 a0_3) := (blk_cell BK144.out 3).trans rfl
                              have hcz50_4 : wc.cell? ⟨gb144, 4, none⟩ = some (.int .i64 a0_4) := (blk_cell BK144.out 4).trans rfl
                              have hcz50_5 : wc.cell? ⟨gb144, 5, none⟩ = some (.slice A0_5 l0_5.length c0_5) := (blk_cell BK144.out 5).trans rfl
                              have hfz50_0 := blk_frozen BK144.out 0
                              have hfz50_1 := blk_frozen BK144.out 1
                              have hfz50_2 := blk_frozen BK144.out 2
                              have hfz50_3 := blk_frozen BK144.out 3
                              have hfz50_4 := blk_frozen BK144.out 4
                              have hfz50_5 := blk_frozen BK144.out 5
                              go_wp2
                              repeat (go_quiet (fail); try go_wp2)
                              go_meet
                              case rel => exact ⟨_, (decide (a0_3 > 16777215)), (by first | rfl | (simp; done) | (simp [*]; done)), H', ⟨by have := HJ1.out; have := HJ7.out; have := HJ20.out; have := HJ24.out; first | omega | exact Nat.le_refl _⟩, ⟨by (with_reducible repeat (first | refine blk_drewN ?_ _ | refine blk_drew ?_ | refine blk_alloc ?_ _)); exact BK144.out⟩, ⟨by repeat (first | (with_reducible first | exact HB.out | apply below_alloc | apply pw_below_drewN | apply below_drew1 | refine below_set ?_ GE144.out) | exact HB.out)⟩⟩
                        · rw [if_neg c45] at H
                          have c45b0 : (a0_0 == 4) = false := beq_eq_false_iff_ne.mpr c45
                          have c45b1 : (a0_0 != 4) = true := bne_iff_ne.mpr c45
                          (first | rw [c45b0] | (simp only [i64_w, i32_w]; rw [c45b0]) | skip)
                          have H' := Aside0.mk H
                          clear H
                          have hcz51_0 : wc.cell? ⟨gb144, 0, none⟩ = some (.int .i64 a0_0) := (blk_cell BK144.out 0).trans rfl
                          have hcz51_1 : wc.cell? ⟨gb144, 1, none⟩ = some (.int .i64 a0_1) := (blk_cell BK144.out 1).trans rfl
                          have hcz51_2 : wc.cell? ⟨gb144, 2, none⟩ = some (.int .i64 a0_2) := (blk_cell BK144.out 2).trans rfl
                          have hcz51_3 : wc.cell? ⟨gb144, 3, none⟩ = some (.int .i64 a0_3) := (blk_cell BK144.out 3).trans rfl
                          have hcz51_4 : wc.cell? ⟨gb144, 4, none⟩ = some (.int .i64 a0_4) := (blk_cell BK144.out 4).trans rfl
                          have hcz51_5 : wc.cell? ⟨gb144, 5, none⟩ = some (.slice A0_5 l0_5.length c0_5) := (blk_cell BK144.out 5).trans rfl
                          have hfz51_0 := blk_frozen BK144.out 0
                          have hfz51_1 := blk_frozen BK144.out 1
                          have hfz51_2 := blk_frozen BK144.out 2
                          have hfz51_3 := blk_frozen BK144.out 3
                          have hfz51_4 := blk_frozen BK144.out 4
                          have hfz51_5 := blk_frozen BK144.out 5
                          go_wp2
                          repeat (go_quiet (fail); try go_wp2)
                          go_meet
                          case rel => exact ⟨_, (false), (by first | rfl | (simp; done) | (simp [*]; done)), H', ⟨by have := HJ1.out; have := HJ7.out; have := HJ20.out; have := HJ24.out; first | omega | exact Nat.le_refl _⟩, ⟨by (with_reducible repeat (first | refine blk_drewN ?_ _ | refine blk_drew ?_ | refine blk_alloc ?_ _)); exact BK144.out⟩, ⟨by repeat (first | (with_reducible first | exact HB.out | apply below_alloc | apply pw_below_drewN | apply below_drew1 | refine below_set ?_ GE144.out) | exact HB.out)⟩⟩
                      case rest =>
                        clear HC44
                        try clear c1
                        try clear c2
                        try clear p2
                        try clear c3
                        try clear c4
                        try clear c4b0
                        try clear c6
                        try clear c7
                        try clear c9
                        try clear c9b0
                        try clear c9b1
                        try clear c10
                        try clear c10b0
                        try clear c10b1
                        try clear c12
                        try clear c12b0
                        try clear c12b1
                        try clear c14
                        try clear c14b0
                        try clear c14b1
                        try clear c16
                        try clear c16b0
                        try clear c16b1
                        try clear c20
                        try clear c22
                        try clear c22b0
                        try clear c22b1
                        try clear c26
                        try clear c28
                        try clear c28b0
                        try clear c31
                        try clear c32
                        try clear c32b0
                        try clear c34
                        try clear c34b0
                        try clear c37
                        try clear c37b0
                        try clear c39
                        try clear c39b0
                        try clear c41
                        try clear c41b0
                        try clear c45
                        try clear c45b0
                        try clear c45b1
                        try clear c46
                        try clear c46b0
                        try clear c48
                        try clear c48b0
                        try clear hcz11_0
                        try clear hcz11_1
                        try clear hcz11_2
                        try clear hcz11_3
                        try clear hcz11_4
                        try clear hcz11_5
                        try clear hcz13_0
                        try clear hcz13_1
                        try clear hcz13_2
                        try clear hcz13_3
                        try clear hcz13_4
                        try clear hcz13_5
                        try clear hcz15_0
                        try clear hcz15_1
                        try clear hcz15_2
                        try clear hcz15_3
                        try clear hcz15_4
                        try clear hcz15_5
                        try clear hcz17_0
                        try clear hcz17_1
                        try clear hcz17_2
                        try clear hcz17_3
                        try clear hcz17_4
                        try clear hcz17_5
                        try clear hcz18_0
                        try clear hcz18_1
                        try clear hcz18_2
                        try clear hcz18_3
                        try clear hcz18_4
                        try clear hcz18_5
                        try clear hcz19_0
                        try clear hcz19_1
                        try clear hcz19_2
                        try clear hcz19_3
                        try clear hcz19_4
                        try clear hcz19_5
                        try clear hcz23_0
                        try clear hcz23_1
                        try clear hcz23_2
                        try clear hcz23_3
                        try clear hcz23_4
                        try clear hcz23_5
                        try clear hcz24_0
                        try clear hcz24_1
                        try clear hcz24_2
                        try clear hcz24_3
                        try clear hcz24_4
                        try clear hcz24_5
                        try clear hcz29_0
                        try clear hcz29_1
                        try clear hcz29_2
                        try clear hcz29_3
                        try clear hcz29_4
                        try clear hcz29_5
                        try clear hcz30_0
                        try clear hcz30_1
                        try clear hcz30_2
                        try clear hcz30_3
                        try clear hcz30_4
                        try clear hcz30_5
                        try clear hcz33_0
                        try clear hcz33_1
                        try clear hcz33_2
                        try clear hcz33_3
                        try clear hcz33_4
                        try clear hcz33_5
                        try clear hcz35_0
                        try clear hcz35_1
                        try clear hcz35_2
                        try clear hcz35_3
                        try clear hcz35_4
                        try clear hcz35_5
                        try clear hcz38_0
                        try clear hcz38_1
                        try clear hcz38_2
                        try clear hcz38_3
                        try clear hcz38_4
                        try clear hcz38_5
                        try clear hcz40_0
                        try clear hcz40_1
                        try clear hcz40_2
                        try clear hcz40_3
                        try clear hcz40_4
                        try clear hcz40_5
                        try clear hcz42_0
                        try clear hcz42_1
                        try clear hcz42_2
                        try clear hcz42_3
                        try clear hcz42_4
                        try clear hcz42_5
                        try clear hcz43_0
                        try clear hcz43_1
                        try clear hcz43_2
                        try clear hcz43_3
                        try clear hcz43_4
                        try clear hcz43_5
                        try clear hcz47_0
                        try clear hcz47_1
                        try clear hcz47_2
                        try clear hcz47_3
                        try clear hcz47_4
                        try clear hcz47_5
                        try clear hcz49_0
                        try clear hcz49_1
                        try clear hcz49_2
                        try clear hcz49_3
                        try clear hcz49_4
                        try clear hcz49_5
                        try clear hcz50_0
                        try clear hcz50_1
                        try clear hcz50_2
                        try clear hcz50_3
                        try clear hcz50_4
                        try clear hcz50_5
                        try clear hcz51_0
                        try clear hcz51_1
                        try clear hcz51_2
                        try clear hcz51_3
                        try clear hcz51_4
                        try clear hcz51_5
                        try clear hcz5_0
                        try clear hcz5_1
                        try clear hcz5_2
                        try clear hcz5_3
                        try clear hcz5_4
                        try clear hcz5_5
                        try clear hcz6_0
                        try clear hcz6_1
                        try clear hcz6_2
                        try clear hcz6_3
                        try clear hcz6_4
                        try clear hcz6_5
                        try clear hfz11_0
                        try clear hfz11_1
                        try clear hfz11_2
                        try clear hfz11_3
                        try clear hfz11_4
                        try clear hfz11_5
                        try clear hfz13_0
                        try clear hfz13_1
                        try clear hfz13_2
                        try clear hfz13_3
                        try clear hfz13_4
                        try clear hfz13_5
                        try clear hfz15_0
                        try clear hfz15_1
                        try clear hfz15_2
                        try clear hfz15_3
                        try clear hfz15_4
                        try clear hfz15_5
                        try clear hfz17_0
                        try clear hfz17_1
                        try clear hfz17_2
                        try clear hfz17_3
                        try clear hfz17_4
                        try clear hfz17_5
                        try clear hfz18_0
                        try clear hfz18_1
                        try clear hfz18_2
                        try clear hfz18_3
                        try clear hfz18_4
                        try clear hfz18_5
                        try clear hfz19_0
                        try clear hfz19_1
                        try clear hfz19_2
                        try clear hfz19_3
                        try clear hfz19_4
                        try clear hfz19_5
                        try clear hfz23_0
                        try clear hfz23_1
                        try clear hfz23_2
                        try clear hfz23_3
                        try clear hfz23_4
                        try clear hfz23_5
                        try clear hfz24_0
                        try clear hfz24_1
                        try clear hfz24_2
                        try clear hfz24_3
                        try clear hfz24_4
                        try clear hfz24_5
                        try clear hfz29_0
                        try clear hfz29_1
                        try clear hfz29_2
                        try clear hfz29_3
                        try clear hfz29_4
                        try clear hfz29_5
                        try clear hfz30_0
                        try clear hfz30_1
                        try clear hfz30_2
                        try clear hfz30_3
                        try clear hfz30_4
                        try clear hfz30_5
                        try clear hfz33_0
                        try clear hfz33_1
                        try clear hfz33_2
                        try clear hfz33_3
                        try clear hfz33_4
                        try clear hfz33_5
                        try clear hfz35_0
                        try clear hfz35_1
                        try clear hfz35_2
                        try clear hfz35_3
                        try clear hfz35_4
                        try clear hfz35_5
                        try clear hfz38_0
                        try clear hfz38_1
                        try clear hfz38_2
                        try clear hfz38_3
                        try clear hfz38_4
                        try clear hfz38_5
                        try clear hfz40_0
                        try clear hfz40_1
                        try clear hfz40_2
                        try clear hfz40_3
                        try clear hfz40_4
                        try clear hfz40_5
                        try clear hfz42_0
                        try clear hfz42_1
                        try clear hfz42_2
                        try clear hfz42_3
                        try clear hfz42_4
                        try clear hfz42_5
                        try clear hfz43_0
                        try clear hfz43_1
                        try clear hfz43_2
                        try clear hfz43_3
                        try clear hfz43_4
                        try clear hfz43_5
                        try clear hfz47_0
                        try clear hfz47_1
                        try clear hfz47_2
                        try clear hfz47_3
                        try clear hfz47_4
                        try clear hfz47_5
                        try clear hfz49_0
                        try clear hfz49_1
                        try clear hfz49_2
                        try clear hfz49_3
                        try clear hfz49_4
                        try clear hfz49_5
                        try clear hfz50_0
                        try clear hfz50_1
                        try clear hfz50_2
                        try clear hfz50_3
                        try clear hfz50_4
                        try clear hfz50_5
                        try clear hfz51_0
                        try clear hfz51_1
                        try clear hfz51_2
                        try clear hfz51_3
                        try clear hfz51_4
                        try clear hfz51_5
                        try clear hfz5_0
                        try clear hfz5_1
                        try clear hfz5_2
                        try clear hfz5_3
                        try clear hfz5_4
                        try clear hfz5_5
                        try clear hfz6_0
                        try clear hfz6_1
                        try clear hfz6_2
                        try clear hfz6_3
                        try clear hfz6_4
                        try clear hfz6_5
                        try clear p2
                        obtain ⟨kq, x102_43, rfl, HA, HJ43, BK144, HB⟩ := hcut
                        cases kq with
                        | zero => exact absurd HA.out (by simp [passepartoutref04_own.j5])
                        | succ kj43 =>
                          have H := HA.out
                          clear HA
                          simp only [passepartoutref04_own.j5] at H
                          by_cases c52 : x102_43 = true
                          · subst c52
                            have H1 : (some 5) = some r := by rw [if_pos rfl] at H; exact H
                            clear H
                            have H := H1
                            clear H1
                            obtain rfl := Option.some.inj H
                            go_wp2
                            repeat (go_quiet (fail); try go_wp2)
                            go_ret
                            exact ⟨by first | rfl | (simp [errW_none, errW_some] <;> rfl) | (simp [*, errW_none, errW_some] <;> rfl), by repeat (first | (with_reducible first | exact HB.out | apply below_alloc | apply pw_below_drewN | apply below_drew1 | refine below_set ?_ GE144.out) | exact HB.out)⟩
                          · replace c52 := Bool.eq_false_iff.mpr c52
                            subst c52
                            have H1 : (if a0_0 = 5 then (if a0_2 < 0 then (passepartoutref04_own.j6 kj43 true a0_0 a0_1 a0_2 a0_3 a0_4 l0_5) else (passepartoutref04_own.j6 kj43 (decide (a0_2 > 16777215)) a0_0 a0_1 a0_2 a0_3 a0_4 l0_5)) else (passepartoutref04_own.j6 kj43 false a0_0 a0_1 a0_2 a0_3 a0_4 l0_5)) = some r := by rw [if_neg (show ¬ (false = true) by decide)] at H; exact H
                            clear H
                            have H := H1
                            clear H1
                            have HC53 := Aside0.mk H
                            clear H
                            go_upto_region 12 with (fail)
                            repeat (go_quiet (fail); go_upto_region 12 with (fail))
                            go_cut [115] (fun v115 wc => ∃ (kq : Nat) (x115_52 : Bool), v115 = .bool x115_52 ∧ Aside0 (passepartoutref04_own.j6 kq x115_52 a0_0 a0_1 a0_2 a0_3 a0_4 l0_5 = some r) ∧ Aside0 (kq ≤ kj43) ∧ Aside0 (wc.heap[gb144]? = some (.cells #[.int .i64 a0_0, .int .i64 a0_1, .int .i64 a0_2, .int .i64 a0_3, .int .i64 a0_4, (.slice A0_5 l0_5.length c0_5)] 27 (0, 0))) ∧ Aside0 (Below w.heap.size w wc))
                            case first =>
                              have H := HC53.out
                              clear HC53
                              by_cases c54 : a0_0 = 5
                              · rw [if_pos c54] at H
                                have c54b0 : (a0_0 == 5) = true := beq_iff_eq.mpr c54
                                have c54b1 : (a0_0 != 5) = false := bne_eq_false_iff_eq.mpr c54
                                clear c54
                                (first | rw [c54b0] | (simp only [i64_w, i32_w]; rw [c54b0]) | skip)
                                by_cases c55 : a0_2 < 0
                                · rw [if_pos c55] at H
                                  have c55b0 : decide (a0_2 < 0) = true := decide_eq_true c55
                                  clear c55
                                  have H' := Aside0.mk H
                                  clear H
                                  have hcz56_0 : wc.cell? ⟨gb144, 0, none⟩ = some (.int .i64 a0_0) := (blk_cell BK144.out 0).trans rfl
                                  have hcz56_1 : wc.cell? ⟨gb144, 1, none⟩ = some (.int .i64 a0_1) := (blk_cell BK144.out 1).trans rfl
                                  have hcz56_2 : wc.cell? ⟨gb144, 2, none⟩ = some (.int .i64 a0_2) := (blk_cell BK144.out 2).trans rfl
                                  have hcz56_3 : wc.cell? ⟨gb144, 3, none⟩ = some (.int .i64 a0_3) := (blk_cell BK144.out 3).trans rfl
                                  have hcz56_4 : wc.cell? ⟨gb144, 4, none⟩ = some (.int .i64 a0_4) := (blk_cell BK144.out 4).trans rfl
                                  have hcz56_5 : wc.cell? ⟨gb144, 5, none⟩ = some (.slice A0_5 l0_5.length c0_5) := (blk_cell BK144.out 5).trans rfl
                                  have hfz56_0 := blk_frozen BK144.out 0
                                  have hfz56_1 := blk_frozen BK144.out 1
                                  have hfz56_2 := blk_frozen BK144.out 2
                                  have hfz56_3 := blk_frozen BK144.out 3
                                  have hfz56_4 := blk_frozen BK144.out 4
                                  have hfz56_5 := blk_frozen BK144.out 5
                                  go_wp2
                                  repeat (go_quiet (fail); try go_wp2)
                                  go_meet
                                  case rel => exact ⟨_, (true), (by first | rfl | (simp; done) | (simp [*]; done)), H', ⟨by have := HJ1.out; have := HJ7.out; have := HJ20.out; have := HJ24.out; have := HJ43.out; first | omega | exact Nat.le_refl _⟩, ⟨by (with_reducible repeat (first | refine blk_drewN ?_ _ | refine blk_drew ?_ | refine blk_alloc ?_ _)); exact BK144.out⟩, ⟨by repeat (first | (with_reducible first | exact HB.out | apply below_alloc | apply pw_below_drewN | apply below_drew1 | refine below_set ?_ GE144.out) | exact HB.out)⟩⟩
                                · rw [if_neg c55] at H
                                  have c55b0 : decide (a0_2 < 0) = false := decide_eq_false c55
                                  clear c55
                                  have H' := Aside0.mk H
                                  clear H
                                  have hcz57_0 : wc.cell? ⟨gb144, 0, none⟩ = some (.int .i64 a0_0) := (blk_cell BK144.out 0).trans rfl
                                  have hcz57_1 : wc.cell? ⟨gb144, 1, none⟩ = some (.int .i64 a0_1) := (blk_cell BK144.out 1).trans rfl
                                  have hcz57_2 : wc.cell? ⟨gb144, 2, none⟩ = some (.int .i64 a0_2) := (blk_cell BK144.out 2).trans rfl
                                  have hcz57_3 : wc.cell? ⟨gb144, 3, none⟩ = some (.int .i64 a0_3) := (blk_cell BK144.out 3).trans rfl
                                  have hcz57_4 : wc.cell? ⟨gb144, 4, none⟩ = some (.int .i64 a0_4) := (blk_cell BK144.out 4).trans rfl
                                  have hcz57_5 : wc.cell? ⟨gb144, 5, none⟩ = some (.slice A0_5 l0_5.length c0_5) := (blk_cell BK144.out 5).trans rfl
                                  have hfz57_0 := blk_frozen BK144.out 0
                                  have hfz57_1 := blk_frozen BK144.out 1
                                  have hfz57_2 := blk_frozen BK144.out 2
                                  have hfz57_3 := blk_frozen BK144.out 3
                                  have hfz57_4 := blk_frozen BK144.out 4
                                  have hfz57_5 := blk_frozen BK144.out 5
                                  go_wp2
                                  repeat (go_quiet (fail); try go_wp2)
                                  go_meet
                                  case rel => exact ⟨_, (decide (a0_2 > 16777215)), (by first | rfl | (simp; done) | (simp [*]; done)), H', ⟨by have := HJ1.out; have := HJ7.out; have := HJ20.out; have := HJ24.out; have := HJ43.out; first | omega | exact Nat.le_refl _⟩, ⟨by (with_reducible repeat (first | refine blk_drewN ?_ _ | refine blk_drew ?_ | refine blk_alloc ?_ _)); exact BK144.out⟩, ⟨by repeat (first | (with_reducible first | exact HB.out | apply below_alloc | apply pw_below_drewN | apply below_drew1 | refine below_set ?_ GE144.out) | exact HB.out)⟩⟩
                              · rw [if_neg c54] at H
                                have c54b0 : (a0_0 == 5) = false := beq_eq_false_iff_ne.mpr c54
                                have c54b1 : (a0_0 != 5) = true := bne_iff_ne.mpr c54
                                (first | rw [c54b0] | (simp only [i64_w, i32_w]; rw [c54b0]) | skip)
                                have H' := Aside0.mk H
                                clear H
                                have hcz58_0 : wc.cell? ⟨gb144, 0, none⟩ = some (.int .i64 a0_0) := (blk_cell BK144.out 0).trans rfl
                                have hcz58_1 : wc.cell? ⟨gb144, 1, none⟩ = some (.int .i64 a0_1) := (blk_cell BK144.out 1).trans rfl
                                have hcz58_2 : wc.cell? ⟨gb144, 2, none⟩ = some (.int .i64 a0_2) := (blk_cell BK144.out 2).trans rfl
                                have hcz58_3 : wc.cell? ⟨gb144, 3, none⟩ = some (.int .i64 a0_3) := (blk_cell BK144.out 3).trans rfl
                                have hcz58_4 : wc.cell? ⟨gb144, 4, none⟩ = some (.int .i64 a0_4) := (blk_cell BK144.out 4).trans rfl
                                have hcz58_5 : wc.cell? ⟨gb144, 5, none⟩ = some (.slice A0_5 l0_5.length c0_5) := (blk_cell BK144.out 5).trans rfl
                                have hfz58_0 := blk_frozen BK144.out 0
                                have hfz58_1 := blk_frozen BK144.out 1
                                have hfz58_2 := blk_frozen BK144.out 2
                                have hfz58_3 := blk_frozen BK144.out 3
                                have hfz58_4 := blk_frozen BK144.out 4
                                have hfz58_5 := blk_frozen BK144.out 5
                                go_wp2
                                repeat (go_quiet (fail); try go_wp2)
                                go_meet
                                case rel => exact ⟨_, (false), (by first | rfl | (simp; done) | (simp [*]; done)), H', ⟨by have := HJ1.out; have := HJ7.out; have := HJ20.out; have := HJ24.out; have := HJ43.out; first | omega | exact Nat.le_refl _⟩, ⟨by (with_reducible repeat (first | refine blk_drewN ?_ _ | refine blk_drew ?_ | refine blk_alloc ?_ _)); exact BK144.out⟩, ⟨by repeat (first | (with_reducible first | exact HB.out | apply below_alloc | apply pw_below_drewN | apply below_drew1 | refine below_set ?_ GE144.out) | exact HB.out)⟩⟩
                            case rest =>
                              clear HC53
                              try clear c1
                              try clear c2
                              try clear p2
                              try clear c3
                              try clear c4
                              try clear c4b0
                              try clear c5
                              try clear c6
                              try clear c7
                              try clear c9
                              try clear c9b0
                              try clear c9b1
                              try clear c10
                              try clear c10b0
                              try clear c10b1
                              try clear c12
                              try clear c12b0
                              try clear c12b1
                              try clear c14
                              try clear c14b0
                              try clear c14b1
                              try clear c16
                              try clear c16b0
                              try clear c16b1
                              try clear c20
                              try clear c22
                              try clear c22b0
                              try clear c22b1
                              try clear c26
                              try clear c28
                              try clear c28b0
                              try clear c31
                              try clear c32
                              try clear c32b0
                              try clear c34
                              try clear c34b0
                              try clear c37
                              try clear c37b0
                              try clear c39
                              try clear c39b0
                              try clear c41
                              try clear c41b0
                              try clear c45
                              try clear c45b0
                              try clear c45b1
                              try clear c46
                              try clear c46b0
                              try clear c48
                              try clear c48b0
                              try clear c52
                              try clear c54
                              try clear c54b0
                              try clear c54b1
                              try clear c55
                              try clear c55b0
                              try clear hcz11_0
                              try clear hcz11_1
                              try clear hcz11_2
                              try clear hcz11_3
                              try clear hcz11_4
                              try clear hcz11_5
                              try clear hcz13_0
                              try clear hcz13_1
                              try clear hcz13_2
                              try clear hcz13_3
                              try clear hcz13_4
                              try clear hcz13_5
                              try clear hcz15_0
                              try clear hcz15_1
                              try clear hcz15_2
                              try clear hcz15_3
                              try clear hcz15_4
                              try clear hcz15_5
                              try clear hcz17_0
                              try clear hcz17_1
                              try clear hcz17_2
                              try clear hcz17_3
                              try clear hcz17_4
                              try clear hcz17_5
                              try clear hcz18_0
                              try clear hcz18_1
                              try clear hcz18_2
                              try clear hcz18_3
                              try clear hcz18_4
                              try clear hcz18_5
                              try clear hcz19_0
                              try clear hcz19_1
                              try clear hcz19_2
                              try clear hcz19_3
                              try clear hcz19_4
                              try clear hcz19_5
                              try clear hcz23_0
                              try clear hcz23_1
                              try clear hcz23_2
                              try clear hcz23_3
                              try clear hcz23_4
                              try clear hcz23_5
                              try clear hcz24_0
                              try clear hcz24_1
                              try clear hcz24_2
                              try clear hcz24_3
                              try clear hcz24_4
                              try clear hcz24_5
                              try clear hcz29_0
                              try clear hcz29_1
                              try clear hcz29_2
                              try clear hcz29_3
                              try clear hcz29_4
                              try clear hcz29_5
                              try clear hcz30_0
                              try clear hcz30_1
                              try clear hcz30_2
                              try clear hcz30_3
                              try clear hcz30_4
                              try clear hcz30_5
                              try clear hcz33_0
                              try clear hcz33_1
                              try clear hcz33_2
                              try clear hcz33_3
                              try clear hcz33_4
                              try clear hcz33_5
                              try clear hcz35_0
                              try clear hcz35_1
                              try clear hcz35_2
                              try clear hcz35_3
                              try clear hcz35_4
                              try clear hcz35_5
                              try clear hcz38_0
                              try clear hcz38_1
                              try clear hcz38_2
                              try clear hcz38_3
                              try clear hcz38_4
                              try clear hcz38_5
                              try clear hcz40_0
                              try clear hcz40_1
                              try clear hcz40_2
                              try clear hcz40_3
                              try clear hcz40_4
                              try clear hcz40_5
                              try clear hcz42_0
                              try clear hcz42_1
                              try clear hcz42_2
                              try clear hcz42_3
                              try clear hcz42_4
                              try clear hcz42_5
                              try clear hcz43_0
                              try clear hcz43_1
                              try clear hcz43_2
                              try clear hcz43_3
                              try clear hcz43_4
                              try clear hcz43_5
                              try clear hcz47_0
                              try clear hcz47_1
                              try clear hcz47_2
                              try clear hcz47_3
                              try clear hcz47_4
                              try clear hcz47_5
                              try clear hcz49_0
                              try clear hcz49_1
                              try clear hcz49_2
                              try clear hcz49_3
                              try clear hcz49_4
                              try clear hcz49_5
                              try clear hcz50_0
                              try clear hcz50_1
                              try clear hcz50_2
                              try clear hcz50_3
                              try clear hcz50_4
                              try clear hcz50_5
                              try clear hcz51_0
                              try clear hcz51_1
                              try clear hcz51_2
                              try clear hcz51_3
                              try clear hcz51_4
                              try clear hcz51_5
                              try clear hcz56_0
                              try clear hcz56_1
                              try clear hcz56_2
                              try clear hcz56_3
                              try clear hcz56_4
                              try clear hcz56_5
                              try clear hcz57_0
                              try clear hcz57_1
                              try clear hcz57_2
                              try clear hcz57_3
                              try clear hcz57_4
                              try clear hcz57_5
                              try clear hcz58_0
                              try clear hcz58_1
                              try clear hcz58_2
                              try clear hcz58_3
                              try clear hcz58_4
                              try clear hcz58_5
                              try clear hcz5_0
                              try clear hcz5_1
                              try clear hcz5_2
                              try clear hcz5_3
                              try clear hcz5_4
                              try clear hcz5_5
                              try clear hcz6_0
                              try clear hcz6_1
                              try clear hcz6_2
                              try clear hcz6_3
                              try clear hcz6_4
                              try clear hcz6_5
                              try clear hfz11_0
                              try clear hfz11_1
                              try clear hfz11_2
                              try clear hfz11_3
                              try clear hfz11_4
                              try clear hfz11_5
                              try clear hfz13_0
                              try clear hfz13_1
                              try clear hfz13_2
                              try clear hfz13_3
                              try clear hfz13_4
                              try clear hfz13_5
                              try clear hfz15_0
                              try clear hfz15_1
                              try clear hfz15_2
                              try clear hfz15_3
                              try clear hfz15_4
                              try clear hfz15_5
                              try clear hfz17_0
                              try clear hfz17_1
                              try clear hfz17_2
                              try clear hfz17_3
                              try clear hfz17_4
                              try clear hfz17_5
                              try clear hfz18_0
                              try clear hfz18_1
                              try clear hfz18_2
                              try clear hfz18_3
                              try clear hfz18_4
                              try clear hfz18_5
                              try clear hfz19_0
                              try clear hfz19_1
                              try clear hfz19_2
                              try clear hfz19_3
                              try clear hfz19_4
                              try clear hfz19_5
                              try clear hfz23_0
                              try clear hfz23_1
                              try clear hfz23_2
                              try clear hfz23_3
                              try clear hfz23_4
                              try clear hfz23_5
                              try clear hfz24_0
                              try clear hfz24_1
                              try clear hfz24_2
                              try clear hfz24_3
                              try clear hfz24_4
                              try clear hfz24_5
                              try clear hfz29_0
                              try clear hfz29_1
                              try clear hfz29_2
                              try clear hfz29_3
                              try clear hfz29_4
                              try clear hfz29_5
                              try clear hfz30_0
                              try clear hfz30_1
                              try clear hfz30_2
                              try clear hfz30_3
                              try clear hfz30_4
                              try clear hfz30_5
                              try clear hfz33_0
                              try clear hfz33_1
                              try clear hfz33_2
                              try clear hfz33_3
                              try clear hfz33_4
                              try clear hfz33_5
                              try clear hfz35_0
                              try clear hfz35_1
                              try clear hfz35_2
                              try clear hfz35_3
                              try clear hfz35_4
                              try clear hfz35_5
                              try clear hfz38_0
                              try clear hfz38_1
                              try clear hfz38_2
                              try clear hfz38_3
                              try clear hfz38_4
                              try clear hfz38_5
                              try clear hfz40_0
                              try clear hfz40_1
                              try clear hfz40_2
                              try clear hfz40_3
                              try clear hfz40_4
                              try clear hfz40_5
                              try clear hfz42_0
                              try clear hfz42_1
                              try clear hfz42_2
                              try clear hfz42_3
                              try clear hfz42_4
                              try clear hfz42_5
                              try clear hfz43_0
                              try clear hfz43_1
                              try clear hfz43_2
                              try clear hfz43_3
                              try clear hfz43_4
                              try clear hfz43_5
                              try clear hfz47_0
                              try clear hfz47_1
                              try clear hfz47_2
                              try clear hfz47_3
                              try clear hfz47_4
                              try clear hfz47_5
                              try clear hfz49_0
                              try clear hfz49_1
                              try clear hfz49_2
                              try clear hfz49_3
                              try clear hfz49_4
                              try clear hfz49_5
                              try clear hfz50_0
                              try clear hfz50_1
                              try clear hfz50_2
                              try clear hfz50_3
                              try clear hfz50_4
                              try clear hfz50_5
                              try clear hfz51_0
                              try clear hfz51_1
                              try clear hfz51_2
                              try clear hfz51_3
                              try clear hfz51_4
                              try clear hfz51_5
                              try clear hfz56_0
                              try clear hfz56_1
                              try clear hfz56_2
                              try clear hfz56_3
                              try clear hfz56_4
                              try clear hfz56_5
                              try clear hfz57_0
                              try clear hfz57_1
                              try clear hfz57_2
                              try clear hfz57_3
                              try clear hfz57_4
                              try clear hfz57_5
                              try clear hfz58_0
                              try clear hfz58_1
                              try clear hfz58_2
                              try clear hfz58_3
                              try clear hfz58_4
                              try clear hfz58_5
                              try clear hfz5_0
                              try clear hfz5_1
                              try clear hfz5_2
                              try clear hfz5_3
                              try clear hfz5_4
                              try clear hfz5_5
                              try clear hfz6_0
                              try clear hfz6_1
                              try clear hfz6_2
                              try clear hfz6_3
                              try clear hfz6_4
                              try clear hfz6_5
                              try clear p2
                              obtain ⟨kq, x115_52, rfl, HA, HJ52, BK144, HB⟩ := hcut
                              cases kq with
                              | zero => exact absurd HA.out (by simp [passepartoutref04_own.j6])
                              | succ kj52 =>
                                have H := HA.out
                                clear HA
                                simp only [passepartoutref04_own.j6] at H
                                by_cases c59 : x115_52 = true
                                · subst c59
                                  have H1 : (some 5) = some r := by rw [if_pos rfl] at H; exact H
                                  clear H
                                  have H := H1
                                  clear H1
                                  obtain rfl := Option.some.inj H
                                  go_wp2
                                  repeat (go_quiet (fail); try go_wp2)
                                  go_ret
                                  exact ⟨by first | rfl | (simp [errW_none, errW_some] <;> rfl) | (simp [*, errW_none, errW_some] <;> rfl), by repeat (first | (with_reducible first | exact HB.out | apply below_alloc | apply pw_below_drewN | apply below_drew1 | refine below_set ?_ GE144.out) | exact HB.out)⟩
                                · replace c59 := Bool.eq_false_iff.mpr c59
                                  subst c59
                                  have H1 : (if a0_0 = 2 then (if (l0_5.length : Int) = 1 then (if a0_0 = 3 then (if (l0_5.length : Int) > 32 then (some 15) else (some 0)) else (some 0)) else (some 15)) else (if a0_0 = 3 then (if (l0_5.length : Int) > 32 then (some 15) else (some 0)) else (some 0))) = some r := by rw [if_neg (show ¬ (false = true) by decide)] at H; exact H
                                  clear H
                                  have H := H1
                                  clear H1
                                  by_cases c60 : a0_0 = 2
                                  · rw [if_pos c60] at H
                                    have c60b0 : (a0_0 == 2) = true := beq_iff_eq.mpr c60
                                    have c60b1 : (a0_0 != 2) = false := bne_eq_false_iff_eq.mpr c60
                                    clear c60
                                    by_cases c61 : (l0_5.length : Int) = 1
                                    · rw [if_pos c61] at H
                                      have c61b0 : ((l0_5.length : Int) == 1) = true := beq_iff_eq.mpr c61
                                      have c61b1 : ((l0_5.length : Int) != 1) = false := bne_eq_false_iff_eq.mpr c61
                                      clear c61
                                      by_cases c62 : a0_0 = 3
                                      · rw [if_pos c62] at H
                                        have c62b0 : (a0_0 == 3) = true := beq_iff_eq.mpr c62
                                        have c62b1 : (a0_0 != 3) = false := bne_eq_false_iff_eq.mpr c62
                                        clear c62
                                        by_cases c63 : (l0_5.length : Int) > 32
                                        · rw [if_pos c63] at H
                                          have c63b0 : decide (32 < (l0_5.length : Int)) = true := decide_eq_true c63
                                          have c63b1 : decide (32 < l0_5.length) = true := decide_eq_true (by omega)
                                          clear c63
                                          obtain rfl := Option.some.inj H
                                          have hcz64_0 : wc.cell? ⟨gb144, 0, none⟩ = some (.int .i64 a0_0) := (blk_cell BK144.out 0).trans rfl
                                          have hcz64_1 : wc.cell? ⟨gb144, 1, none⟩ = some (.int .i64 a0_1) := (blk_cell BK144.out 1).trans rfl
                                          have hcz64_2 : wc.cell? ⟨gb144, 2, none⟩ = some (.int .i64 a0_2) := (blk_cell BK144.out 2).trans rfl
                                          have hcz64_3 : wc.cell? ⟨gb144, 3, none⟩ = some (.int .i64 a0_3) := (blk_cell BK144.out 3).trans rfl
                                          have hcz64_4 : wc.cell? ⟨gb144, 4, none⟩ = some (.int .i64 a0_4) := (blk_cell BK144.out 4).trans rfl
                                          have hcz64_5 : wc.cell? ⟨gb144, 5, none⟩ = some (.slice A0_5 l0_5.length c0_5) := (blk_cell BK144.out 5).trans rfl
                                          have hfz64_0 := blk_frozen BK144.out 0
                                          have hfz64_1 := blk_frozen BK144.out 1
                                          have hfz64_2 := blk_frozen BK144.out 2
                                          have hfz64_3 := blk_frozen BK144.out 3
                                          have hfz64_4 := blk_frozen BK144.out 4
                                          have hfz64_5 := blk_frozen BK144.out 5
                                          go_wp2
                                          repeat (go_quiet (fail); try go_wp2)
                                          go_ret
                                          exact ⟨by first | rfl | (simp [errW_none, errW_some] <;> rfl) | (simp [*, errW_none, errW_some] <;> rfl), by repeat (first | (with_reducible first | exact HB.out | apply below_alloc | apply pw_below_drewN | apply below_drew1 | refine below_set ?_ GE144.out) | exact HB.out)⟩
                                        · rw [if_neg c63] at H
                                          have c63b0 : decide (32 < (l0_5.length : Int)) = false := decide_eq_false c63
                                          have c63b1 : decide (32 < l0_5.length) = false := decide_eq_false (by omega)
                                          clear c63
                                          obtain rfl := Option.some.inj H
                                          have hcz65_0 : wc.cell? ⟨gb144, 0, none⟩ = some (.int .i64 a0_0) := (blk_cell BK144.out 0).trans rfl
                                          have hcz65_1 : wc.cell? ⟨gb144, 1, none⟩ = some (.int .i64 a0_1) := (blk_cell BK144.out 1).trans rfl
                                          have hcz65_2 : wc.cell? ⟨gb144, 2, none⟩ = some (.int .i64 a0_2) := (blk_cell BK144.out 2).trans rfl
                                          have hcz65_3 : wc.cell? ⟨gb144, 3, none⟩ = some (.int .i64 a0_3) := (blk_cell BK144.out 3).trans rfl
                                          have hcz65_4 : wc.cell? ⟨gb144, 4, none⟩ = some (.int .i64 a0_4) := (blk_cell BK144.out 4).trans rfl
                                          have hcz65_5 : wc.cell? ⟨gb144, 5, none⟩ = some (.slice A0_5 l0_5.length c0_5) := (blk_cell BK144.out 5).trans rfl
                                          have hfz65_0 := blk_frozen BK144.out 0
                                          have hfz65_1 := blk_frozen BK144.out 1
                                          have hfz65_2 := blk_frozen BK144.out 2
                                          have hfz65_3 := blk_frozen BK144.out 3
                                          have hfz65_4 := blk_frozen BK144.out 4
                                          have hfz65_5 := blk_frozen BK144.out 5
                                          go_wp2
                                          repeat (go_quiet (fail); try go_wp2)
                                          go_ret
                                          exact ⟨by first | rfl | (simp [errW_none, errW_some] <;> rfl) | (simp [*, errW_none, errW_some] <;> rfl), by repeat (first | (with_reducible first | exact HB.out | apply below_alloc | apply pw_below_drewN | apply below_drew1 | refine below_set ?_ GE144.out) | exact HB.out)⟩
                                      · rw [if_neg c62] at H
                                        have c62b0 : (a0_0 == 3) = false := beq_eq_false_iff_ne.mpr c62
                                        have c62b1 : (a0_0 != 3) = true := bne_iff_ne.mpr c62
                                        obtain rfl := Option.some.inj H
                                        have hcz66_0 : wc.cell? ⟨gb144, 0, none⟩ = some (.int .i64 a0_0) := (blk_cell BK144.out 0).trans rfl
                                        have hcz66_1 : wc.cell? ⟨gb144, 1, none⟩ = some (.int .i64 a0_1) := (blk_cell BK144.out 1).trans rfl
                                        have hcz66_2 : wc.cell? ⟨gb144, 2, none⟩ = some (.int .i64 a0_2) := (blk_cell BK144.out 2).trans rfl
                                        have hcz66_3 : wc.cell? ⟨gb144, 3, none⟩ = some (.int .i64 a0_3) := (blk_cell BK144.out 3).trans rfl
                                        have hcz66_4 : wc.cell? ⟨gb144, 4, none⟩ = some (.int .i64 a0_4) := (blk_cell BK144.out 4).trans rfl
                                        have hcz66_5 : wc.cell? ⟨gb144, 5, none⟩ = some (.slice A0_5 l0_5.length c0_5) := (blk_cell BK144.out 5).trans rfl
                                        have hfz66_0 := blk_frozen BK144.out 0
                                        have hfz66_1 := blk_frozen BK144.out 1
                                        have hfz66_2 := blk_frozen BK144.out 2
                                        have hfz66_3 := blk_frozen BK144.out 3
                                        have hfz66_4 := blk_frozen BK144.out 4
                                        have hfz66_5 := blk_frozen BK144.out 5
                                        go_wp2
                                        repeat (go_quiet (fail); try go_wp2)
                                        go_ret
                                        exact ⟨by first | rfl | (simp [errW_none, errW_some] <;> rfl) | (simp [*, errW_none, errW_some] <;> rfl), by repeat (first | (with_reducible first | exact HB.out | apply below_alloc | apply pw_below_drewN | apply below_drew1 | refine below_set ?_ GE144.out) | exact HB.out)⟩
                                    · rw [if_neg c61] at H
                                      have c61b0 : ((l0_5.length : Int) == 1) = false := beq_eq_false_iff_ne.mpr c61
                                      have c61b1 : ((l0_5.length : Int) != 1) = true := bne_iff_ne.mpr c61
                                      obtain rfl := Option.some.inj H
                                      have hcz67_0 : wc.cell? ⟨gb144, 0, none⟩ = some (.int .i64 a0_0) := (blk_cell BK144.out 0).trans rfl
                                      have hcz67_1 : wc.cell? ⟨gb144, 1, none⟩ = some (.int .i64 a0_1) := (blk_cell BK144.out 1).trans rfl
                                      have hcz67_2 : wc.cell? ⟨gb144, 2, none⟩ = some (.int .i64 a0_2) := (blk_cell BK144.out 2).trans rfl
                                      have hcz67_3 : wc.cell? ⟨gb144, 3, none⟩ = some (.int .i64 a0_3) := (blk_cell BK144.out 3).trans rfl
                                      have hcz67_4 : wc.cell? ⟨gb144, 4, none⟩ = some (.int .i64 a0_4) := (blk_cell BK144.out 4).trans rfl
                                      have hcz67_5 : wc.cell? ⟨gb144, 5, none⟩ = some (.slice A0_5 l0_5.length c0_5) := (blk_cell BK144.out 5).trans rfl
                                      have hfz67_0 := blk_frozen BK144.out 0
                                      have hfz67_1 := blk_frozen BK144.out 1
                                      have hfz67_2 := blk_frozen BK144.out 2
                                      have hfz67_3 := blk_frozen BK144.out 3
                                      have hfz67_4 := blk_frozen BK144.out 4
                                      have hfz67_5 := blk_frozen BK144.out 5
                                      go_wp2
                                      repeat (go_quiet (fail); try go_wp2)
                                      go_ret
                                      exact ⟨by first | rfl | (simp [errW_none, errW_some] <;> rfl) | (simp [*, errW_none, errW_some] <;> rfl), by repeat (first | (with_reducible first | exact HB.out | apply below_alloc | apply pw_below_drewN | apply below_drew1 | refine below_set ?_ GE144.out) | exact HB.out)⟩
                                  · rw [if_neg c60] at H
                                    have c60b0 : (a0_0 == 2) = false := beq_eq_false_iff_ne.mpr c60
                                    have c60b1 : (a0_0 != 2) = true := bne_iff_ne.mpr c60
                                    by_cases c68 : a0_0 = 3
                                    · rw [if_pos c68] at H
                                      have c68b0 : (a0_0 == 3) = true := beq_iff_eq.mpr c68
                                      have c68b1 : (a0_0 != 3) = false := bne_eq_false_iff_eq.mpr c68
                                      clear c68
                                      by_cases c69 : (l0_5.length : Int) > 32
                                      · rw [if_pos c69] at H
                                        have c69b0 : decide (32 < (l0_5.length : Int)) = true := decide_eq_true c69
                                        have c69b1 : decide (32 < l0_5.length) = true := decide_eq_true (by omega)
                                        clear c69
                                        obtain rfl := Option.some.inj H
                                        have hcz70_0 : wc.cell? ⟨gb144, 0, none⟩ = some (.int .i64 a0_0) := (blk_cell BK144.out 0).trans rfl
                                        have hcz70_1 : wc.cell? ⟨gb144, 1, none⟩ = some (.int .i64 a0_1) := (blk_cell BK144.out 1).trans rfl
                                        have hcz70_2 : wc.cell? ⟨gb144, 2, none⟩ = some (.int .i64 a0_2) := (blk_cell BK144.out 2).trans rfl
                                        have hcz70_3 : wc.cell? ⟨gb144, 3, none⟩ = some (.int .i64 a0_3) := (blk_cell BK144.out 3).trans rfl
                                        have hcz70_4 : wc.cell? ⟨gb144, 4, none⟩ = some (.int .i64 a0_4) := (blk_cell BK144.out 4).trans rfl
                                        have hcz70_5 : wc.cell? ⟨gb144, 5, none⟩ = some (.slice A0_5 l0_5.length c0_5) := (blk_cell BK144.out 5).trans rfl
                                        have hfz70_0 := blk_frozen BK144.out 0
                                        have hfz70_1 := blk_frozen BK144.out 1
                                        have hfz70_2 := blk_frozen BK144.out 2
                                        have hfz70_3 := blk_frozen BK144.out 3
                                        have hfz70_4 := blk_frozen BK144.out 4
                                        have hfz70_5 := blk_frozen BK144.out 5
                                        go_wp2
                                        repeat (go_quiet (fail); try go_wp2)
                                        go_ret
                                        exact ⟨by first | rfl | (simp [errW_none, errW_some] <;> rfl) | (simp [*, errW_none, errW_some] <;> rfl), by repeat (first | (with_reducible first | exact HB.out | apply below_alloc | apply pw_below_drewN | apply below_drew1 | refine below_set ?_ GE144.out) | exact HB.out)⟩
                                      · rw [if_neg c69] at H
                                        have c69b0 : decide (32 < (l0_5.length : Int)) = false := decide_eq_false c69
                                        have c69b1 : decide (32 < l0_5.length) = false := decide_eq_false (by omega)
                                        clear c69
                                        obtain rfl := Option.some.inj H
                                        have hcz71_0 : wc.cell? ⟨gb144, 0, none⟩ = some (.int .i64 a0_0) := (blk_cell BK144.out 0).trans rfl
                                        have hcz71_1 : wc.cell? ⟨gb144, 1, none⟩ = some (.int .i64 a0_1) := (blk_cell BK144.out 1).trans rfl
                                        have hcz71_2 : wc.cell? ⟨gb144, 2, none⟩ = some (.int .i64 a0_2) := (blk_cell BK144.out 2).trans rfl
                                        have hcz71_3 : wc.cell? ⟨gb144, 3, none⟩ = some (.int .i64 a0_3) := (blk_cell BK144.out 3).trans rfl
                                        have hcz71_4 : wc.cell? ⟨gb144, 4, none⟩ = some (.int .i64 a0_4) := (blk_cell BK144.out 4).trans rfl
                                        have hcz71_5 : wc.cell? ⟨gb144, 5, none⟩ = some (.slice A0_5 l0_5.length c0_5) := (blk_cell BK144.out 5).trans rfl
                                        have hfz71_0 := blk_frozen BK144.out 0
                                        have hfz71_1 := blk_frozen BK144.out 1
                                        have hfz71_2 := blk_frozen BK144.out 2
                                        have hfz71_3 := blk_frozen BK144.out 3
                                        have hfz71_4 := blk_frozen BK144.out 4
                                        have hfz71_5 := blk_frozen BK144.out 5
                                        go_wp2
                                        repeat (go_quiet (fail); try go_wp2)
                                        go_ret
                                        exact ⟨by first | rfl | (simp [errW_none, errW_some] <;> rfl) | (simp [*, errW_none, errW_some] <;> rfl), by repeat (first | (with_reducible first | exact HB.out | apply below_alloc | apply pw_below_drewN | apply below_drew1 | refine below_set ?_ GE144.out) | exact HB.out)⟩
                                    · rw [if_neg c68] at H
                                      have c68b0 : (a0_0 == 3) = false := beq_eq_false_iff_ne.mpr c68
                                      have c68b1 : (a0_0 != 3) = true := bne_iff_ne.mpr c68
                                      obtain rfl := Option.some.inj H
                                      have hcz72_0 : wc.cell? ⟨gb144, 0, none⟩ = some (.int .i64 a0_0) := (blk_cell BK144.out 0).trans rfl
                                      have hcz72_1 : wc.cell? ⟨gb144, 1, none⟩ = some (.int .i64 a0_1) := (blk_cell BK144.out 1).trans rfl
                                      have hcz72_2 : wc.cell? ⟨gb144, 2, none⟩ = some (.int .i64 a0_2) := (blk_cell BK144.out 2).trans rfl
                                      have hcz72_3 : wc.cell? ⟨gb144, 3, none⟩ = some (.int .i64 a0_3) := (blk_cell BK144.out 3).trans rfl
                                      have hcz72_4 : wc.cell? ⟨gb144, 4, none⟩ = some (.int .i64 a0_4) := (blk_cell BK144.out 4).trans rfl
                                      have hcz72_5 : wc.cell? ⟨gb144, 5, none⟩ = some (.slice A0_5 l0_5.length c0_5) := (blk_cell BK144.out 5).trans rfl
                                      have hfz72_0 := blk_frozen BK144.out 0
                                      have hfz72_1 := blk_frozen BK144.out 1
                                      have hfz72_2 := blk_frozen BK144.out 2
                                      have hfz72_3 := blk_frozen BK144.out 3
                                      have hfz72_4 := blk_frozen BK144.out 4
                                      have hfz72_5 := blk_frozen BK144.out 5
                                      go_wp2
                                      repeat (go_quiet (fail); try go_wp2)
                                      go_ret
                                      exact ⟨by first | rfl | (simp [errW_none, errW_some] <;> rfl) | (simp [*, errW_none, errW_some] <;> rfl), by repeat (first | (with_reducible first | exact HB.out | apply below_alloc | apply pw_below_drewN | apply below_drew1 | refine below_set ?_ GE144.out) | exact HB.out)⟩

end Go.Proofs.Ytfcghajnnllmhaa.QP
