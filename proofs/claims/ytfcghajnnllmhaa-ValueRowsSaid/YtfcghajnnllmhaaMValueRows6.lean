/-
  The law ValueRows: for every input it returns true, and its arguments read behind the call as before it. No condition.
-/
import Derived.Test.YtfcghajnnllmhaaProg
import Derived.Lib.SmallJoins
import Derived.Test.YtfcghajnnllmhaaRows
import Derived.Test.YtfcghajnnllmhaaMValueRows1
import Derived.Test.YtfcghajnnllmhaaMValueRows2
import Derived.Test.YtfcghajnnllmhaaMValueRows3
import Derived.Test.YtfcghajnnllmhaaMValueRows4
import Derived.Test.YtfcghajnnllmhaaMValueRows5

namespace Go.Proofs.Ytfcghajnnllmhaa.QP
open Go.RowKit Go.Proofs.YtfcghajnnllmhaaW.PrintWords Go.Proofs.YtfcghajnnllmhaaW.PrintLast Go.Proofs.YtfcghajnnllmhaaW.PrintMore
attribute [local go_sem] max2_int min2_int max_two min_two max_three max_four min_four   -- for this text's walks alone
set_option linter.unusedVariables false
set_option linter.unusedSimpArgs false

/-! ### passepartoutlaw05_ValueRows: function 9 -/
mutual
def passepartoutlaw05_ValueRows.j0 : Nat → List (S27) → List (S46) → Int → Bool → Int → Int → Int → Int → Int → List (S27) → Option (Bool)
  | 0, _, _, _, _, _, _, _, _, _, _ => none
  | k + 1, x0, x1, x5, x38, x331000, x331001, x331002, x331003, x331004, x331005 => if x38 = true then ((passepartoutlaw05_alive.f).bind fun t334 => (some t334)) else (passepartoutlaw05_ValueRows.l0 k x1 x5 0 0 x0 (x0.length : Int) 0 x331000 x331001 x331002 x331003 x331004 x331005)
def passepartoutlaw05_ValueRows.l0 : Nat → List (S46) → Int → Int → Int → List (S27) → Int → Int → Int → Int → Int → Int → Int → List (S27) → Option (Bool)
  | 0, _, _, _, _, _, _, _, _, _, _, _, _, _ => none
  | k + 1, x1, x5, x7, x8, x40, x41, x42, x331000, x331001, x331002, x331003, x331004, x331005 => if x42 < x41 then (if 0 ≤ x42 then (if x42 < (x40.length : Int) then (if x42 < (x1.length : Int) then ((value_Fits.f k ((rd_T27 x40 x42).f0) ((rd_T27 x40 x42).f1) ((rd_T27 x40 x42).f2) ((rd_T27 x40 x42).f3) ((rd_T27 x40 x42).f4) ((rd_T27 x40 x42).f5) ((rd_T46 x1 x42).f0) ((rd_T46 x1 x42).f1) ((rd_T46 x1 x42).f2)).bind fun t338 => (if x8 = 0 then ((value_Size.f k ((rd_T27 x40 x42).f0) ((rd_T27 x40 x42).f1) ((rd_T27 x40 x42).f2) ((rd_T27 x40 x42).f3) ((rd_T27 x40 x42).f4) ((rd_T27 x40 x42).f5) ((rd_T46 x1 x42).f0) ((rd_T46 x1 x42).f1) ((rd_T46 x1 x42).f2)).bind fun t340 => (passepartoutlaw05_ValueRows.l0 k x1 x5 (wrap64 (x7 + t340)) t338 x40 x41 (wrap64 (x42 + 1)) x331000 x331001 x331002 x331003 x331004 x331005)) else ((value_Size.f k ((rd_T27 x40 x42).f0) ((rd_T27 x40 x42).f1) ((rd_T27 x40 x42).f2) ((rd_T27 x40 x42).f3) ((rd_T27 x40 x42).f4) ((rd_T27 x40 x42).f5) ((rd_T46 x1 x42).f0) ((rd_T46 x1 x42).f1) ((rd_T46 x1 x42).f2)).bind fun t342 => (passepartoutlaw05_ValueRows.l0 k x1 x5 (wrap64 (x7 + t342)) x8 x40 x41 (wrap64 (x42 + 1)) x331000 x331001 x331002 x331003 x331004 x331005)))) else (none)) else (none)) else (none)) else ((value_List.f x1).bind fun bt343 => ((value_Fits.f k x331000 x331001 x331002 x331003 x331004 x331005 bt343.1 bt343.2.1 bt343.2.2).bind fun t351 => (if t351 = x8 then (if x8 = 0 then ((value_Size.f k x331000 x331001 x331002 x331003 x331004 x331005 bt343.1 bt343.2.1 bt343.2.2).bind fun t352 => (passepartoutlaw05_ValueRows.j2 k x1 x5 (t352 != x7) x331000 x331001 x331002 x331003 x331004 x331005)) else (passepartoutlaw05_ValueRows.j2 k x1 x5 false x331000 x331001 x331002 x331003 x331004 x331005)) else (passepartoutlaw05_ValueRows.j2 k x1 x5 true x331000 x331001 x331002 x331003 x331004 x331005))))
def passepartoutlaw05_ValueRows.j2 : Nat → List (S46) → Int → Bool → Int → Int → Int → Int → Int → List (S27) → Option (Bool)
  | 0, _, _, _, _, _, _, _, _, _ => none
  | k + 1, x1, x5, x82, x331000, x331001, x331002, x331003, x331004, x331005 => if x82 = true then (some false) else (if x5 = 0 then (some true) else (if 0 ≤ (wrap64 (x5 - 1)) then (if (wrap64 (x5 - 1)) ≤ (x1.length : Int) then ((some (x1.take ((wrap64 (x5 - 1)) : Int).toNat : List (S46))).bind fun y353 => ((value_List.f y353).bind fun bt357 => ((value_Fits.f k x331000 x331001 x331002 x331003 x331004 x331005 bt357.1 bt357.2.1 bt357.2.2).bind fun t364 => (if t364 = 15 then ((value_List.f y353).bind fun bt369 => ((value_Size.f k x331000 x331001 x331002 x331003 x331004 x331005 bt369.1 bt369.2.1 bt369.2.2).bind fun t376 => (some (t376 == 0)))) else (some false))))) else (none)) else (none)))
end
def passepartoutlaw05_ValueRows.f (k : Nat) (l0 : List (S27)) (l1 : List (S46)) : Option (Bool) := if 0 ≤ (mn (mn (l0.length : Int) (l1.length : Int)) 8) then (if (mn (mn (l0.length : Int) (l1.length : Int)) 8) ≤ (l0.length : Int) then ((some (l0.take ((mn (mn (l0.length : Int) (l1.length : Int)) 8) : Int).toNat : List (S27))).bind fun y322 => (if (mn (mn (l0.length : Int) (l1.length : Int)) 8) ≤ (l1.length : Int) then ((some (l1.take ((mn (mn (l0.length : Int) (l1.length : Int)) 8) : Int).toNat : List (S46))).bind fun y326 => ((passepartoutlaw05_alive.f).bind fun t331 => (if t331 = true then ((passepartoutlaw05_Great.f k 3 0 0 0 0 y322 y326).bind fun t332 => (if t332 > 0 then (passepartoutlaw05_ValueRows.j0 k y322 y326 (mn (mn (l0.length : Int) (l1.length : Int)) 8) true 3 0 0 0 0 y322) else ((passepartoutref04_Check.f k 3 0 0 0 0 y322).bind fun t333 => (passepartoutlaw05_ValueRows.j0 k y322 y326 (mn (mn (l0.length : Int) (l1.length : Int)) 8) (t333 != 0) 3 0 0 0 0 y322)))) else (passepartoutlaw05_ValueRows.j0 k y322 y326 (mn (mn (l0.length : Int) (l1.length : Int)) 8) true 3 0 0 0 0 y322)))) else (none))) else (none)) else (none)
theorem passepartoutlaw05_ValueRows.mono_l : ∀ k, (∀ y0 y1 y2 y3 y4 y5 y6 y7 y8 y9, LeO (passepartoutlaw05_ValueRows.j0 k y0 y1 y2 y3 y4 y5 y6 y7 y8 y9) (passepartoutlaw05_ValueRows.j0 (k + 1) y0 y1 y2 y3 y4 y5 y6 y7 y8 y9)) ∧ (∀ y0 y1 y2 y3 y4 y5 y6 y7 y8 y9 y10 y11 y12, LeO (passepartoutlaw05_ValueRows.l0 k y0 y1 y2 y3 y4 y5 y6 y7 y8 y9 y10 y11 y12) (passepartoutlaw05_ValueRows.l0 (k + 1) y0 y1 y2 y3 y4 y5 y6 y7 y8 y9 y10 y11 y12)) ∧ (∀ y0 y1 y2 y3 y4 y5 y6 y7 y8, LeO (passepartoutlaw05_ValueRows.j2 k y0 y1 y2 y3 y4 y5 y6 y7 y8) (passepartoutlaw05_ValueRows.j2 (k + 1) y0 y1 y2 y3 y4 y5 y6 y7 y8))
  | 0 => ⟨fun _ _ _ _ _ _ _ _ _ _ r h => by simp [passepartoutlaw05_ValueRows.j0] at h, fun _ _ _ _ _ _ _ _ _ _ _ _ _ r h => by simp [passepartoutlaw05_ValueRows.l0] at h, fun _ _ _ _ _ _ _ _ _ r h => by simp [passepartoutlaw05_ValueRows.j2] at h⟩
  | k + 1 => by
    obtain ⟨ih0, ih1, ih2⟩ := passepartoutlaw05_ValueRows.mono_l k
    refine ⟨?_, ?_, ?_⟩
    · intro y0 y1 y2 y3 y4 y5 y6 y7 y8 y9
      unfold passepartoutlaw05_ValueRows.j0
      repeat' first
      | (with_reducible exact ih0 _ _ _ _ _ _ _ _ _ _)
      | (with_reducible exact ih1 _ _ _ _ _ _ _ _ _ _ _ _ _)
      | (with_reducible exact ih2 _ _ _ _ _ _ _ _ _)
      | (with_reducible exact passepartoutlaw05_Great.mono _ _ _ _ _ _ _ _)
      | (with_reducible exact passepartoutref04_Check.mono _ _ _ _ _ _ _)
      | (with_reducible exact value_Fits.mono _ _ _ _ _ _ _ _ _ _)
      | (with_reducible exact value_Size.mono _ _ _ _ _ _ _ _ _ _)
      | (with_reducible exact LeO.refl _)
      | (with_reducible exact LeO.none _)
      | (with_reducible refine LeO.ite ?_ ?_)
      | (with_reducible refine LeO.bind ?_ (fun _ => ?_))
      | exact ih0 _ _ _ _ _ _ _ _ _ _
      | exact ih1 _ _ _ _ _ _ _ _ _ _ _ _ _
      | exact ih2 _ _ _ _ _ _ _ _ _
      | exact passepartoutlaw05_Great.mono _ _ _ _ _ _ _ _
      | exact passepartoutref04_Check.mono _ _ _ _ _ _ _
      | exact value_Fits.mono _ _ _ _ _ _ _ _ _ _
      | exact value_Size.mono _ _ _ _ _ _ _ _ _ _
      | exact LeO.none _
      | refine LeO.ite ?_ ?_
      | refine LeO.bind ?_ (fun _ => ?_)
    · intro y0 y1 y2 y3 y4 y5 y6 y7 y8 y9 y10 y11 y12
      unfold passepartoutlaw05_ValueRows.l0
      repeat' first
      | (with_reducible exact ih0 _ _ _ _ _ _ _ _ _ _)
      | (with_reducible exact ih1 _ _ _ _ _ _ _ _ _ _ _ _ _)
      | (with_reducible exact ih2 _ _ _ _ _ _ _ _ _)
      | (with_reducible exact passepartoutlaw05_Great.mono _ _ _ _ _ _ _ _)
      | (with_reducible exact passepartoutref04_Check.mono _ _ _ _ _ _ _)
      | (with_reducible exact value_Fits.mono _ _ _ _ _ _ _ _ _ _)
      | (with_reducible exact value_Size.mono _ _ _ _ _ _ _ _ _ _)
      | (with_reducible exact LeO.refl _)
      | (with_reducible exact LeO.none _)
      | (with_reducible refine LeO.ite ?_ ?_)
      | (with_reducible refine LeO.bind ?_ (fun _ => ?_))
      | exact ih0 _ _ _ _ _ _ _ _ _ _
      | exact ih1 _ _ _ _ _ _ _ _ _ _ _ _ _
      | exact ih2 _ _ _ _ _ _ _ _ _
      | exact passepartoutlaw05_Great.mono _ _ _ _ _ _ _ _
      | exact passepartoutref04_Check.mono _ _ _ _ _ _ _
      | exact value_Fits.mono _ _ _ _ _ _ _ _ _ _
      | exact value_Size.mono _ _ _ _ _ _ _ _ _ _
      | exact LeO.none _
      | refine LeO.ite ?_ ?_
      | refine LeO.bind ?_ (fun _ => ?_)
    · intro y0 y1 y2 y3 y4 y5 y6 y7 y8
      unfold passepartoutlaw05_ValueRows.j2
      repeat' first
      | (with_reducible exact ih0 _ _ _ _ _ _ _ _ _ _)
      | (with_reducible exact ih1 _ _ _ _ _ _ _ _ _ _ _ _ _)
      | (with_reducible exact ih2 _ _ _ _ _ _ _ _ _)
      | (with_reducible exact passepartoutlaw05_Great.mono _ _ _ _ _ _ _ _)
      | (with_reducible exact passepartoutref04_Check.mono _ _ _ _ _ _ _)
      | (with_reducible exact value_Fits.mono _ _ _ _ _ _ _ _ _ _)
      | (with_reducible exact value_Size.mono _ _ _ _ _ _ _ _ _ _)
      | (with_reducible exact LeO.refl _)
      | (with_reducible exact LeO.none _)
      | (with_reducible refine LeO.ite ?_ ?_)
      | (with_reducible refine LeO.bind ?_ (fun _ => ?_))
      | exact ih0 _ _ _ _ _ _ _ _ _ _
      | exact ih1 _ _ _ _ _ _ _ _ _ _ _ _ _
      | exact ih2 _ _ _ _ _ _ _ _ _
      | exact passepartoutlaw05_Great.mono _ _ _ _ _ _ _ _
      | exact passepartoutref04_Check.mono _ _ _ _ _ _ _
      | exact value_Fits.mono _ _ _ _ _ _ _ _ _ _
      | exact value_Size.mono _ _ _ _ _ _ _ _ _ _
      | exact LeO.none _
      | refine LeO.ite ?_ ?_
      | refine LeO.bind ?_ (fun _ => ?_)
theorem passepartoutlaw05_ValueRows.mono : ∀ a0 a1 k, LeO (passepartoutlaw05_ValueRows.f k a0 a1) (passepartoutlaw05_ValueRows.f (k + 1) a0 a1) := by
  intro a0 a1 k
  obtain ⟨ih0, ih1, ih2⟩ := passepartoutlaw05_ValueRows.mono_l k
  unfold passepartoutlaw05_ValueRows.f
  repeat' first
      | (with_reducible exact ih0 _ _ _ _ _ _ _ _ _ _)
      | (with_reducible exact ih1 _ _ _ _ _ _ _ _ _ _ _ _ _)
      | (with_reducible exact ih2 _ _ _ _ _ _ _ _ _)
      | (with_reducible exact passepartoutlaw05_Great.mono _ _ _ _ _ _ _ _)
      | (with_reducible exact passepartoutref04_Check.mono _ _ _ _ _ _ _)
      | (with_reducible exact value_Fits.mono _ _ _ _ _ _ _ _ _ _)
      | (with_reducible exact value_Size.mono _ _ _ _ _ _ _ _ _ _)
      | (with_reducible exact LeO.refl _)
      | (with_reducible exact LeO.none _)
      | (with_reducible refine LeO.ite ?_ ?_)
      | (with_reducible refine LeO.bind ?_ (fun _ => ?_))
      | exact ih0 _ _ _ _ _ _ _ _ _ _
      | exact ih1 _ _ _ _ _ _ _ _ _ _ _ _ _
      | exact ih2 _ _ _ _ _ _ _ _ _
      | exact passepartoutlaw05_Great.mono _ _ _ _ _ _ _ _
      | exact passepartoutref04_Check.mono _ _ _ _ _ _ _
      | exact value_Fits.mono _ _ _ _ _ _ _ _ _ _
      | exact value_Size.mono _ _ _ _ _ _ _ _ _ _
      | exact LeO.none _
      | refine LeO.ite ?_ ?_
      | refine LeO.bind ?_ (fun _ => ?_)
def passepartoutlaw05_ValueRows.T2 : Bool × List (List Nat × List Nat) := (true, [([], []), ([], []), ([0, 1], [0, 1]), ([], []), ([], []), ([3, 4], [3, 4]), ([2, 0, 1, 2], [0, 2]), ([5, 6, 0, 1, 2, 3, 4, 5, 6], [3, 5])])
def passepartoutlaw05_ValueRows.B2 : List Nat := [0, 0, 3, 0, 0, 24, 7, 127]
theorem passepartoutlaw05_ValueRows.tab2 : rtab .any (opsOf Try.f9 2) = passepartoutlaw05_ValueRows.T2 := by kernel_rfl
theorem passepartoutlaw05_ValueRows.bits2 : waitsOk passepartoutlaw05_ValueRows.T2.2 passepartoutlaw05_ValueRows.B2 = true := by kernel_rfl
def passepartoutlaw05_ValueRows.T13 : Bool × List (List Nat × List Nat) := (true, [([], []), ([], []), ([], []), ([], []), ([2, 3], [2, 3]), ([4], [4]), ([1, 5], [1, 5]), ([0, 6], [0, 6]), ([7, 6, 0, 1, 2, 3, 4, 5, 6, 7], [0, 7])])
def passepartoutlaw05_ValueRows.B13 : List Nat := [0, 0, 0, 0, 12, 28, 62, 127, 255]
theorem passepartoutlaw05_ValueRows.tab13 : rtab .any (opsOf Try.f9 13) = passepartoutlaw05_ValueRows.T13 := by kernel_rfl
theorem passepartoutlaw05_ValueRows.bits13 : waitsOk passepartoutlaw05_ValueRows.T13.2 passepartoutlaw05_ValueRows.B13 = true := by kernel_rfl
def passepartoutlaw05_ValueRows.T20 : Bool × List (List Nat × List Nat) := (true, [([], []), ([], []), ([], []), ([2], [2]), ([1, 3], [1, 3]), ([4], [4]), ([0, 5, 5], [0, 5]), ([6], [6]), ([7, 6], [7]), ([8], [8]), ([8], [8]), ([8], [8]), ([11, 8], [8, 11]), ([10, 12, 8], [8, 10, 12]), ([13, 8, 8], [8, 13]), ([9, 14, 14, 8], [8, 9, 14]), ([15, 8], [8, 15]), ([8, 16], [8, 16]), ([17, 15, 0, 1, 2, 3, 4, 5, 6, 7, 8, 9, 10, 11, 12, 13, 14, 15, 16, 17], [17])])
def passepartoutlaw05_ValueRows.B20 : List Nat := [0, 0, 0, 4, 14, 30, 63, 127, 255, 511, 511, 511, 2559, 7679, 15871, 32767, 65535, 131071, 262143]
theorem passepartoutlaw05_ValueRows.tab20 : rtab .any (opsOf Try.f9 20) = passepartoutlaw05_ValueRows.T20 := by kernel_rfl
theorem passepartoutlaw05_ValueRows.bits20 : waitsOk passepartoutlaw05_ValueRows.T20.2 passepartoutlaw05_ValueRows.B20 = true := by kernel_rfl
set_option maxHeartbeats 8000000 in
set_option maxRecDepth 100000 in
theorem passepartoutlaw05_ValueRows.calls (k : Nat) (A0 : Option Addr) (c0 : Nat) (l0 : List (S27)) (A1 : Option Addr) (c1 : Nat) (l1 : List (S46)) (r : Bool) (w : World) (hr0 : Kd.C k27 w A0 l0.length l0) (hc0 : l0.length ≤ c0) (hr1 : Kd.C k46 w A1 l1.length l1) (hc1 : l1.length ≤ c1) (h : passepartoutlaw05_ValueRows.f k l0 l1 = some r) :
    Calls Try.prog 9 #[.slice A0 l0.length c0, .slice A1 l1.length c1] w fun e w' => e = .returned (.bool r) ∧ Below w.heap.size w w' := by
  have hu27 := Try.underlying27
  have hu46 := Try.underlying46
  have HR0 := Aside0.mk hr0
  have HC0 := Aside0.mk hc0
  clear hr0 hc0
  have HR1 := Aside0.mk hr1
  have HC1 := Aside0.mk hc1
  clear hr1 hc1
  have HB := Aside0.mk (Below.refl w.heap.size w)
  have H : (if 0 ≤ (mn (mn (l0.length : Int) (l1.length : Int)) 8) then (if (mn (mn (l0.length : Int) (l1.length : Int)) 8) ≤ (l0.length : Int) then ((some (l0.take ((mn (mn (l0.length : Int) (l1.length : Int)) 8) : Int).toNat : List (S27))).bind fun y322 => (if (mn (mn (l0.length : Int) (l1.length : Int)) 8) ≤ (l1.length : Int) then ((some (l1.take ((mn (mn (l0.length : Int) (l1.length : Int)) 8) : Int).toNat : List (S46))).bind fun y326 => ((passepartoutlaw05_alive.f).bind fun t331 => (if t331 = true then ((passepartoutlaw05_Great.f k 3 0 0 0 0 y322 y326).bind fun t332 => (if t332 > 0 then (passepartoutlaw05_ValueRows.j0 k y322 y326 (mn (mn (l0.length : Int) (l1.length : Int)) 8) true 3 0 0 0 0 y322) else ((passepartoutref04_Check.f k 3 0 0 0 0 y322).bind fun t333 => (passepartoutlaw05_ValueRows.j0 k y322 y326 (mn (mn (l0.length : Int) (l1.length : Int)) 8) (t333 != 0) 3 0 0 0 0 y322)))) else (passepartoutlaw05_ValueRows.j0 k y322 y326 (mn (mn (l0.length : Int) (l1.length : Int)) 8) true 3 0 0 0 0 y322)))) else (none))) else (none)) else (none)) = some r := h
  clear h
  obtain ⟨ji3, hji3⟩ : ∃ j_ : Int, (mn (l0.length : Int) (l1.length : Int)) = j_ := ⟨_, rfl⟩
  replace H : (if 0 ≤ (mn (ji3) 8) then (if (mn (ji3) 8) ≤ (l0.length : Int) then ((some (l0.take ((mn (ji3) 8) : Int).toNat : List (S27))).bind fun y322 => (if (mn (ji3) 8) ≤ (l1.length : Int) then ((some (l1.take ((mn (ji3) 8) : Int).toNat : List (S46))).bind fun y326 => ((passepartoutlaw05_alive.f).bind fun t331 => (if t331 = true then ((passepartoutlaw05_Great.f k 3 0 0 0 0 y322 y326).bind fun t332 => (if t332 > 0 then (passepartoutlaw05_ValueRows.j0 k y322 y326 (mn (ji3) 8) true 3 0 0 0 0 y322) else ((passepartoutref04_Check.f k 3 0 0 0 0 y322).bind fun t333 => (passepartoutlaw05_ValueRows.j0 k y322 y326 (mn (ji3) 8) (t333 != 0) 3 0 0 0 0 y322)))) else (passepartoutlaw05_ValueRows.j0 k y322 y326 (mn (ji3) 8) true 3 0 0 0 0 y322)))) else (none))) else (none)) else (none)) = some r := by first | (rw [hji3] at H; exact H) | (simp only [hji3] at H ⊢; exact H)
  (try (have hji3l : 0 ≤ ji3 := by (rw [← hji3]; unfold mn; (repeat' split) <;> omega)))
  (try (have hji3m : 0 ≤ ji3 := by omega))
  have hji3_ : (if (l1.length : Int) < (l0.length : Int) then (l1.length : Int) else (l0.length : Int)) = ji3 := hji3
  obtain ⟨ji4, hji4⟩ : ∃ j_ : Int, (mn (ji3) 8) = j_ := ⟨_, rfl⟩
  replace H : (if 0 ≤ (ji4) then (if (ji4) ≤ (l0.length : Int) then ((some (l0.take ((ji4) : Int).toNat : List (S27))).bind fun y322 => (if (ji4) ≤ (l1.length : Int) then ((some (l1.take ((ji4) : Int).toNat : List (S46))).bind fun y326 => ((passepartoutlaw05_alive.f).bind fun t331 => (if t331 = true then ((passepartoutlaw05_Great.f k 3 0 0 0 0 y322 y326).bind fun t332 => (if t332 > 0 then (passepartoutlaw05_ValueRows.j0 k y322 y326 ji4 true 3 0 0 0 0 y322) else ((passepartoutref04_Check.f k 3 0 0 0 0 y322).bind fun t333 => (passepartoutlaw05_ValueRows.j0 k y322 y326 ji4 (t333 != 0) 3 0 0 0 0 y322)))) else (passepartoutlaw05_ValueRows.j0 k y322 y326 ji4 true 3 0 0 0 0 y322)))) else (none))) else (none)) else (none)) = some r := by first | (rw [hji4] at H; exact H) | (simp only [hji4] at H ⊢; exact H)
  have hji4_ : (if 8 < (ji3) then 8 else (ji3)) = ji4 := hji4
  have hmin3_ : ∀ (ats : Array TypeId) (ty : TypeId) (W : World), (Builtin.min_ ats ty #[.int .i64 (l0.length : Int), .int .i64 (l1.length : Int), .int .i64 8]).run Try.prog W = .ok (.int .i64 ji4) W := fun ats ty W => by
    rw [min_three, ← hji4_, ← hji3_]
    by_cases h1_ : (l1.length : Int) < (l0.length : Int)
    · by_cases h2_ : (8 : Int) < (l1.length : Int) <;> simp [min2_int, h1_, h2_]
    · by_cases h2_ : (8 : Int) < (l0.length : Int) <;> simp [min2_int, h1_, h2_]
  by_cases c5 : 0 ≤ (ji4)
  · rw [if_pos c5] at H
    have c5b0 := eq_true c5
    have c5b1 : decide (0 ≤ (ji4)) = true := decide_eq_true c5
    clear c5
    by_cases c6 : (ji4) ≤ (l0.length : Int)
    · rw [if_pos c6] at H
      have c6b0 := eq_true c6
      have c6b1 : decide ((ji4) ≤ (l0.length : Int)) = true := decide_eq_true c6
      clear c6
      obtain ⟨y322, hy322⟩ : ∃ y_ : List (S27), y_ = (l0.take ((ji4) : Int).toNat) := ⟨_, rfl⟩
      replace H : (if (ji4) ≤ (l1.length : Int) then ((some (l1.take ((ji4) : Int).toNat : List (S46))).bind fun y326 => ((passepartoutlaw05_alive.f).bind fun t331 => (if t331 = true then ((passepartoutlaw05_Great.f k 3 0 0 0 0 y322 y326).bind fun t332 => (if t332 > 0 then (passepartoutlaw05_ValueRows.j0 k y322 y326 ji4 true 3 0 0 0 0 y322) else ((passepartoutref04_Check.f k 3 0 0 0 0 y322).bind fun t333 => (passepartoutlaw05_ValueRows.j0 k y322 y326 ji4 (t333 != 0) 3 0 0 0 0 y322)))) else (passepartoutlaw05_ValueRows.j0 k y322 y326 ji4 true 3 0 0 0 0 y322)))) else (none)) = some r := by first | (rw [hy322]; with_reducible exact H) | (have H2_ := (Option.bind_some _ _).symm.trans H; rw [hy322]; with_reducible exact H2_) | (have H2_ := (Option.bind_some _ _).symm.trans H; with_reducible exact H2_) | with_reducible exact H | (rw [hy322]; exact H) | exact H
      have Ny322 := Aside0.mk hy322
      clear hy322
      have c7b0 := eq_true (of_decide_eq_true (by first | (with_reducible assumption) | assumption) : 0 ≤ (ji4))
      by_cases c8 : (ji4) ≤ (l1.length : Int)
      · rw [if_pos c8] at H
        have c8b0 := eq_true c8
        have c8b1 : decide ((ji4) ≤ (l1.length : Int)) = true := decide_eq_true c8
        clear c8
        obtain ⟨y326, hy326⟩ : ∃ y_ : List (S46), y_ = (l1.take ((ji4) : Int).toNat) := ⟨_, rfl⟩
        replace H : ((passepartoutlaw05_alive.f).bind fun t331 => (if t331 = true then ((passepartoutlaw05_Great.f k 3 0 0 0 0 y322 y326).bind fun t332 => (if t332 > 0 then (passepartoutlaw05_ValueRows.j0 k y322 y326 ji4 true 3 0 0 0 0 y322) else ((passepartoutref04_Check.f k 3 0 0 0 0 y322).bind fun t333 => (passepartoutlaw05_ValueRows.j0 k y322 y326 ji4 (t333 != 0) 3 0 0 0 0 y322)))) else (passepartoutlaw05_ValueRows.j0 k y322 y326 ji4 true 3 0 0 0 0 y322))) = some r := by first | (rw [hy326]; with_reducible exact H) | (have H2_ := (Option.bind_some _ _).symm.trans H; rw [hy326]; with_reducible exact H2_) | (have H2_ := (Option.bind_some _ _).symm.trans H; with_reducible exact H2_) | with_reducible exact H | (rw [hy326]; exact H) | exact H
        have Ny326 := Aside0.mk hy326
        clear hy326
        have HC9 := Aside0.mk H
        clear H
        go_enter Try.func9, Try.ntmps9
        try go_wp2
        have n0_ := Aside0.mk (below_drew1 HB.out)
        clear HB
        have HB := n0_
        clear n0_
        have q11 : ((ji4) : Int) ≤ ((l0.length : Int) : Int) := of_decide_eq_true (by first | (with_reducible assumption) | assumption)
        obtain ⟨i011, hi011, _, hsz11, _⟩ := info_parts info27
        have hroom11 : l0.length ≤ c0 := HC0.out
        have hC11 : Kd.C k27 _ A0 l0.length l0 := HR0.out
        have hcut11 := cut_to (P := Try.prog) 25 27 .i64 Try.underlying25 hi011 A0 l0.length c0 (ji4) (of_decide_eq_true (by first | (with_reducible assumption) | assumption)) q11 hroom11
        have hr11 := Kd.C_take (m := ((ji4) : Int).toNat) hC11 (by omega)
        have hy11 : y322.length = ((ji4) : Int).toNat := (by rw [Ny322.out, List.length_take]; omega)
        rw [← Ny322.out] at hr11
        rw [← hy11] at hcut11
        have HR325 := Aside0.mk hr11
        have HC325 := Aside0.mk (show y322.length ≤ c0 from by omega)
        clear hr11 hC11 hroom11 hi011 hsz11
        have KY11 := Aside0.mk hy11
        clear hy11
        replace q11 := eq_true q11
        have q12 : ((ji4) : Int) ≤ ((l1.length : Int) : Int) := of_decide_eq_true (by first | (with_reducible assumption) | assumption)
        obtain ⟨i012, hi012, _, hsz12, _⟩ := info_parts info46
        have hroom12 : l1.length ≤ c1 := HC1.out
        have hC12 : Kd.C k46 _ A1 l1.length l1 := HR1.out
        have hcut12 := cut_to (P := Try.prog) 44 46 .i64 Try.underlying44 hi012 A1 l1.length c1 (ji4) (of_decide_eq_true (by first | (with_reducible assumption) | assumption)) q12 hroom12
        have hr12 := Kd.C_take (m := ((ji4) : Int).toNat) hC12 (by omega)
        have hy12 : y326.length = ((ji4) : Int).toNat := (by rw [Ny326.out, List.length_take]; omega)
        rw [← Ny326.out] at hr12
        rw [← hy12] at hcut12
        have HR329 := Aside0.mk hr12
        have HC329 := Aside0.mk (show y326.length ≤ c1 from by omega)
        clear hr12 hC12 hroom12 hi012 hsz12
        have KY12 := Aside0.mk hy12
        clear hy12
        replace q12 := eq_true q12
        refine start_ (n := 8) (S := fun w' => True) (ds := []) #[false, false, false, false, false, false, false, false] (by kernel_rfl) rfl rfl trivial (fun hHeld => ?_); refine with_tabW passepartoutlaw05_ValueRows.tab2 passepartoutlaw05_ValueRows.bits2 (fun HT_ HW_ => ?_)
        generalize w.drew = w10 at HB HR325 HR329 hHeld ⊢
        refine pure_ (i := 0) (N := some 18) (v := ?_) (a' := ?_) #[true, false, false, false, false, false, false, false] rfl rfl (any_of HT_.out (by kernel_rfl)) (fun _ _ _ h => h) (Or.inl ⟨by rfl, ?_⟩) ?_ ?_
        rotate_left
        · intro w'
          go_simp
          with_reducible rfl
        rotate_left
        · simp only [Act.put, List.setIfInBounds_toArray, List.set_cons_zero, List.set_cons_succ, i64_w, i32_w]
          rfl
        refine pure_ (i := 1) (N := some 19) (v := ?_) (a' := ?_) #[true, true, false, false, false, false, false, false] rfl rfl (any_of HT_.out (by kernel_rfl)) (fun _ _ _ h => h) (Or.inl ⟨by rfl, ?_⟩) ?_ ?_
        rotate_left
        · intro w'
          go_simp
          with_reducible rfl
        rotate_left
        · simp only [Act.put, List.setIfInBounds_toArray, List.set_cons_zero, List.set_cons_succ, i64_w, i32_w]
          rfl
        refine pure_ (i := 2) (N := some 20) (v := ?_) (a' := ?_) #[true, true, true, false, false, false, false, false] rfl rfl (any_of HT_.out (by kernel_rfl)) (fun _ _ _ h => h) (Or.inl ⟨by rfl, ?_⟩) ?_ ?_
        rotate_left
        · intro w'
          go_simp
          with_reducible rfl
        rotate_left
        · simp only [Act.put, List.setIfInBounds_toArray, List.set_cons_zero, List.set_cons_succ, i64_w, i32_w]
          rfl
        refine pure_ (i := 3) (N := some 21) (v := ?_) (a' := ?_) #[true, true, true, true, false, false, false, false] rfl rfl (any_of HT_.out (by kernel_rfl)) (fun _ _ _ h => h) (Or.inl ⟨by rfl, ?_⟩) ?_ ?_
        rotate_left
        · intro w'
          go_simp
          with_reducible rfl
        rotate_left
        · simp only [Act.put, List.setIfInBounds_toArray, List.set_cons_zero, List.set_cons_succ, i64_w, i32_w]
          rfl
        refine pure_ (i := 4) (N := some 22) (v := ?_) (a' := ?_) #[true, true, true, true, true, false, false, false] rfl rfl (any_of HT_.out (by kernel_rfl)) (fun _ _ _ h => h) (Or.inl ⟨by rfl, ?_⟩) ?_ ?_
        rotate_left
        · intro w'
          go_simp
          with_reducible rfl
        rotate_left
        · simp only [Act.put, List.setIfInBounds_toArray, List.set_cons_zero, List.set_cons_succ, i64_w, i32_w]
          rfl
        refine pure_ (i := 5) (N := some 23) (v := ?_) (a' := ?_) #[true, true, true, true, true, true, false, false] rfl rfl (any_of HT_.out (by kernel_rfl)) (fun _ _ _ h => h) (Or.inl ⟨by rfl, ?_⟩) ?_ ?_
        rotate_left
        · intro w'
          go_simp
          with_reducible rfl
        rotate_left
        · simp only [Act.put, List.setIfInBounds_toArray, List.set_cons_zero, List.set_cons_succ, i64_w, i32_w]
          rfl
        refine pure_ (i := 6) (N := some 0) (v := ?_) (a' := ?_) #[true, true, true, true, true, true, true, false] rfl rfl (any_of HT_.out (by kernel_rfl)) (fun _ _ _ h => h) (Or.inl ⟨by rfl, ?_⟩) ?_ ?_
        rotate_left
        · intro w'
          go_simp
          with_reducible rfl
        rotate_left
        · simp only [Act.put, List.setIfInBounds_toArray, List.set_cons_zero, List.set_cons_succ, i64_w, i32_w]
          rfl
        refine pure_ (i := 7) (N := some 1) (v := ?_) (a' := ?_) #[true, true, true, true, true, true, true, true] rfl rfl (any_of HT_.out (by kernel_rfl)) (fun _ _ _ h => h) (Or.inl ⟨by rfl, ?_⟩) ?_ ?_
        rotate_left
        · intro w'
          go_simp
          with_reducible rfl
        rotate_left
        · simp only [Act.put, List.setIfInBounds_toArray, List.set_cons_zero, List.set_cons_succ, i64_w, i32_w]
          rfl
        refine done_ (done_of HT_.out (by kernel_rfl)) ?_
        go_upto_region 4 with (first | ((with_reducible refine gate_dst (N := 6) rfl ?_); refine box_event ?hg (N := 6) ?hd (cs := #[.int .i64 0, .int .i64 0, .int .i64 0, .int .i64 0, .int .i64 0, .slice none 0 0]) (t := 27) ?hr ?_; (case hd => rfl); (case hg => rfl); (case hr => first | (go_simp; done) | (go_simp; rfl)); intro gb330 hg w13 hbox hb; have n0_ := Aside0.mk (below_step (by repeat (first | (with_reducible first | exact HB.out | apply below_alloc | apply pw_below_drewN | apply below_drew1) | exact HB.out)) hb); have n1_ := Aside0.mk (hbox); have n2_ := Aside0.mk ((by rw [hg]; exact (below_size (by repeat (first | (with_reducible first | exact HB.out | apply below_alloc | apply pw_below_drewN | apply below_drew1) | exact HB.out))) : w.heap.size ≤ gb330)); have n3_ := Aside0.mk ((by rw [hg]; exact (below_size (by repeat (first | (with_reducible first | exact HB.out | apply below_alloc | apply pw_below_drewN | apply below_drew1) | exact HB.out))) : w.heap.size ≤ gb330)); clear HB; have HB := n0_; have BK330 := n1_; have GW330 := n2_; have GE330 := n3_; clear n0_ n1_ n2_ n3_; clear hb hbox hg; have hcz14_0 : w13.cell? ⟨gb330, 0, none⟩ = some (.int .i64 0) := (blk_cell BK330.out 0).trans rfl; have hcz14_1 : w13.cell? ⟨gb330, 1, none⟩ = some (.int .i64 0) := (blk_cell BK330.out 1).trans rfl; have hcz14_2 : w13.cell? ⟨gb330, 2, none⟩ = some (.int .i64 0) := (blk_cell BK330.out 2).trans rfl; have hcz14_3 : w13.cell? ⟨gb330, 3, none⟩ = some (.int .i64 0) := (blk_cell BK330.out 3).trans rfl; have hcz14_4 : w13.cell? ⟨gb330, 4, none⟩ = some (.int .i64 0) := (blk_cell BK330.out 4).trans rfl; have hcz14_5 : w13.cell? ⟨gb330, 5, none⟩ = some (.slice none 0 0) := (blk_cell BK330.out 5).trans rfl; have hfz14_0 := blk_frozen BK330.out 0; have hfz14_1 := blk_frozen BK330.out 1; have hfz14_2 := blk_frozen BK330.out 2; have hfz14_3 := blk_frozen BK330.out 3; have hfz14_4 := blk_frozen BK330.out 4; have hfz14_5 := blk_frozen BK330.out 5))
        (try simp only [Act.put, List.setIfInBounds_toArray, List.set_cons_zero, List.set_cons_succ])
        go_cut [38] (fun v38 wc => ∃ (kq : Nat) (x38_8 : Bool), v38 = .bool x38_8 ∧ Aside0 (passepartoutlaw05_ValueRows.j0 kq y322 y326 ji4 x38_8 3 0 0 0 0 y322 = some r) ∧ Aside0 (kq ≤ k) ∧ Aside0 (wc.heap[gb330]? = some (.cells #[.int .i64 3, .int .i64 0, .int .i64 0, .int .i64 0, .int .i64 0, (.slice A0 y322.length c0)] 27 (0, 0))) ∧ Aside0 (Below w.heap.size w wc))
        case first =>
          have H := HC9.out
          clear HC9
          replace H := Option.bind_eq_some_iff.mp H
          obtain ⟨t331, A150, H⟩ := H
          replace H : (if t331 = true then ((passepartoutlaw05_Great.f k 3 0 0 0 0 y322 y326).bind fun t332 => (if t332 > 0 then (passepartoutlaw05_ValueRows.j0 k y322 y326 ji4 true 3 0 0 0 0 y322) else ((passepartoutref04_Check.f k 3 0 0 0 0 y322).bind fun t333 => (passepartoutlaw05_ValueRows.j0 k y322 y326 ji4 (t333 != 0) 3 0 0 0 0 y322)))) else (passepartoutlaw05_ValueRows.j0 k y322 y326 ji4 true 3 0 0 0 0 y322)) = some r := H
          have A15 := Aside0.mk A150
          clear A150
          by_cases c16 : t331 = true
          · subst c16
            have H1 : ((passepartoutlaw05_Great.f k 3 0 0 0 0 y322 y326).bind fun t332 => (if t332 > 0 then (passepartoutlaw05_ValueRows.j0 k y322 y326 ji4 true 3 0 0 0 0 y322) else ((passepartoutref04_Check.f k 3 0 0 0 0 y322).bind fun t333 => (passepartoutlaw05_ValueRows.j0 k y322 y326 ji4 (t333 != 0) 3 0 0 0 0 y322)))) = some r := by rw [if_pos rfl] at H; exact H
            clear H
            have H := H1
            clear H1
            replace H := Option.bind_eq_some_iff.mp H
            obtain ⟨t332, A170, H⟩ := H
            replace H : (if t332 > 0 then (passepartoutlaw05_ValueRows.j0 k y322 y326 ji4 true 3 0 0 0 0 y322) else ((passepartoutref04_Check.f k 3 0 0 0 0 y322).bind fun t333 => (passepartoutlaw05_ValueRows.j0 k y322 y326 ji4 (t333 != 0) 3 0 0 0 0 y322))) = some r := H
            have A17 := Aside0.mk A170
            clear A170
            by_cases c18 : t332 > 0
            · rw [if_pos c18] at H
              have c18b0 : decide (0 < t332) = true := decide_eq_true c18
              clear c18
              (first | rw [c18b0] | (simp only [i64_w, i32_w]; rw [c18b0]) | skip)
              have H' := Aside0.mk H
              clear H
              go_wp2_with (first | ((with_reducible refine gate_callee (f := 30) rfl ?_); refine goesL_ (some 26) rfl rfl Try.func30 (by kernel_rfl) rfl #[] rfl (by (try simp only [List.map_toArray, List.map_cons, List.map_nil]); first | done | rfl | (simp only [List.length_drop, List.length_take]; rfl)) ?_; (with_reducible refine (passepartoutlaw05_alive.calls  true _ A15.out).mono ?_); rintro e w19 ⟨rfl, hb⟩; refine ⟨_, rfl, ?_⟩; have n0_ := Aside0.mk (blk_below (g := gb330) (o := .cells #[.int .i64 3, .int .i64 0, .int .i64 0, .int .i64 0, .int .i64 0, .slice A0 y322.length c0] 27 (0, 0)) (by (with_reducible repeat (first | refine blk_drewN ?_ _ | refine blk_drew ?_ | refine blk_alloc ?_ _)); refine blk_put (cs := #[.int .i64 3, .int .i64 0, .int .i64 0, .int .i64 0, .int .i64 0, .slice none 0 0]) ?_ 5 _ rfl; (with_reducible repeat (first | refine blk_drewN ?_ _ | refine blk_drew ?_ | refine blk_alloc ?_ _)); refine blk_put (cs := #[.int .i64 3, .int .i64 0, .int .i64 0, .int .i64 0, .int .i64 0, .slice none 0 0]) ?_ 4 _ rfl; (with_reducible repeat (first | refine blk_drewN ?_ _ | refine blk_drew ?_ | refine blk_alloc ?_ _)); refine blk_put (cs := #[.int .i64 3, .int .i64 0, .int .i64 0, .int .i64 0, .int .i64 0, .slice none 0 0]) ?_ 3 _ rfl; (with_reducible repeat (first | refine blk_drewN ?_ _ | refine blk_drew ?_ | refine blk_alloc ?_ _)); refine blk_put (cs := #[.int .i64 3, .int .i64 0, .int .i64 0, .int .i64 0, .int .i64 0, .slice none 0 0]) ?_ 2 _ rfl; (with_reducible repeat (first | refine blk_drewN ?_ _ | refine blk_drew ?_ | refine blk_alloc ?_ _)); refine blk_put (cs := #[.int .i64 3, .int .i64 0, .int .i64 0, .int .i64 0, .int .i64 0, .slice none 0 0]) ?_ 1 _ rfl; (with_reducible repeat (first | refine blk_drewN ?_ _ | refine blk_drew ?_ | refine blk_alloc ?_ _)); refine blk_put (cs := #[.int .i64 0, .int .i64 0, .int .i64 0, .int .i64 0, .int .i64 0, .slice none 0 0]) ?_ 0 _ rfl; (with_reducible repeat (first | refine blk_drewN ?_ _ | refine blk_drew ?_ | refine blk_alloc ?_ _)); exact BK330.out) hb); have n1_ := Aside0.mk (below_step (by repeat (first | (with_reducible first | exact HB.out | apply below_alloc | apply pw_below_drewN | apply below_drew1 | refine below_set ?_ GE330.out) | exact HB.out)) hb); clear BK330; clear HB; have BK330 := n0_; have HB := n1_; clear n0_ n1_; (try clear hb); (try clear hb2); (try clear hk); (try clear hi); have hcz20_0 : w19.cell? ⟨gb330, 0, none⟩ = some (.int .i64 3) := (blk_cell BK330.out 0).trans rfl; have hcz20_1 : w19.cell? ⟨gb330, 1, none⟩ = some (.int .i64 0) := (blk_cell BK330.out 1).trans rfl; have hcz20_2 : w19.cell? ⟨gb330, 2, none⟩ = some (.int .i64 0) := (blk_cell BK330.out 2).trans rfl; have hcz20_3 : w19.cell? ⟨gb330, 3, none⟩ = some (.int .i64 0) := (blk_cell BK330.out 3).trans rfl; have hcz20_4 : w19.cell? ⟨gb330, 4, none⟩ = some (.int .i64 0) := (blk_cell BK330.out 4).trans rfl; have hcz20_5 : w19.cell? ⟨gb330, 5, none⟩ = some (.slice A0 y322.length c0) := (blk_cell BK330.out 5).trans rfl; have hfz20_0 := blk_frozen BK330.out 0; have hfz20_1 := blk_frozen BK330.out 1; have hfz20_2 := blk_frozen BK330.out 2; have hfz20_3 := blk_frozen BK330.out 3; have hfz20_4 := blk_frozen BK330.out 4; have hfz20_5 := blk_frozen BK330.out 5) | (go_at_call 31; (with_reducible refine (passepartoutlaw05_Great.calls k 3 0 0 0 0 _ _ y322 _ _ y326 t332 _ ?side1 ?side2 ?side3 ?side4 A17.out).mono ?_); (case side1 => repeat (first | exact (Kd.C_below HR325.out HB.out) | (with_reducible refine Kd.C_alloc ?_ _) | (with_reducible refine Kd.C_drewN ?_ _) | (with_reducible refine Kd.C_drew ?_))); (case side2 => exact HC325.out); (case side3 => repeat (first | exact (Kd.C_below HR329.out HB.out) | (with_reducible refine Kd.C_alloc ?_ _) | (with_reducible refine Kd.C_drewN ?_ _) | (with_reducible refine Kd.C_drew ?_))); (case side4 => exact HC329.out); rintro e w21 ⟨rfl, hb⟩; have n0_ := Aside0.mk (blk_below (g := gb330) (o := .cells #[.int .i64 3, .int .i64 0, .int .i64 0, .int .i64 0, .int .i64 0, .slice A0 y322.length c0] 27 (0, 0)) (by (with_reducible repeat (first | refine blk_drewN ?_ _ | refine blk_drew ?_ | refine blk_alloc ?_ _)); exact BK330.out) hb); have n1_ := Aside0.mk (below_step (by repeat (first | (with_reducible first | exact HB.out | apply below_alloc | apply pw_below_drewN | apply below_drew1 | refine below_set ?_ GE330.out) | exact HB.out)) hb); clear BK330; clear HB; have BK330 := n0_; have HB := n1_; clear n0_ n1_; (try clear hb); (try clear hb2); (try clear hk); (try clear hi)))
              go_meet
              case rel => exact ⟨_, (true), (by first | rfl | (simp; done) | (simp [*]; done)), H', ⟨by first | omega | exact Nat.le_refl _⟩, ⟨by (with_reducible repeat (first | refine blk_drewN ?_ _ | refine blk_drew ?_ | refine blk_alloc ?_ _)); exact BK330.out⟩, ⟨by repeat (first | (with_reducible first | exact HB.out | apply below_alloc | apply pw_below_drewN | apply below_drew1 | refine below_set ?_ GE330.out) | exact HB.out)⟩⟩
            · rw [if_neg c18] at H
              have c18b0 : decide (0 < t332) = false := decide_eq_false c18
              clear c18
              (first | rw [c18b0] | (simp only [i64_w, i32_w]; rw [c18b0]) | skip)
              replace H := Option.bind_eq_some_iff.mp H
              obtain ⟨t333, A220, H⟩ := H
              replace H : (passepartoutlaw05_ValueRows.j0 k y322 y326 ji4 (t333 != 0) 3 0 0 0 0 y322) = some r := H
              have A22 := Aside0.mk A220
              clear A220
              have H' := Aside0.mk H
              clear H
              go_wp2_with (first | ((with_reducible refine gate_callee (f := 30) rfl ?_); refine goesL_ (some 26) rfl rfl Try.func30 (by kernel_rfl) rfl #[] rfl (by (try simp only [List.map_toArray, List.map_cons, List.map_nil]); first | done | rfl | (simp only [List.length_drop, List.length_take]; rfl)) ?_; (with_reducible refine (passepartoutlaw05_alive.calls  true _ A15.out).mono ?_); rintro e w23 ⟨rfl, hb⟩; refine ⟨_, rfl, ?_⟩; have n0_ := Aside0.mk (blk_below (g := gb330) (o := .cells #[.int .i64 3, .int .i64 0, .int .i64 0, .int .i64 0, .int .i64 0, .slice A0 y322.length c0] 27 (0, 0)) (by (with_reducible repeat (first | refine blk_drewN ?_ _ | refine blk_drew ?_ | refine blk_alloc ?_ _)); refine blk_put (cs := #[.int .i64 3, .int .i64 0, .int .i64 0, .int .i64 0, .int .i64 0, .slice none 0 0]) ?_ 5 _ rfl; (with_reducible repeat (first | refine blk_drewN ?_ _ | refine blk_drew ?_ | refine blk_alloc ?_ _)); refine blk_put (cs := #[.int .i64 3, .int .i64 0, .int .i64 0, .int .i64 0, .int .i64 0, .slice none 0 0]) ?_ 4 _ rfl; (with_reducible repeat (first | refine blk_drewN ?_ _ | refine blk_drew ?_ | refine blk_alloc ?_ _)); refine blk_put (cs := #[.int .i64 3, .int .i64 0, .int .i64 0, .int .i64 0, .int .i64 0, .slice none 0 0]) ?_ 3 _ rfl; (with_reducible repeat (first | refine blk_drewN ?_ _ | refine blk_drew ?_ | refine blk_alloc ?_ _)); refine blk_put (cs := #[.int .i64 3, .int .i64 0, .int .i64 0, .int .i64 0, .int .i64 0, .slice none 0 0]) ?_ 2 _ rfl; (with_reducible repeat (first | refine blk_drewN ?_ _ | refine blk_drew ?_ | refine blk_alloc ?_ _)); refine blk_put (cs := #[.int .i64 3, .int .i64 0, .int .i64 0, .int .i64 0, .int .i64 0, .slice none 0 0]) ?_ 1 _ rfl; (with_reducible repeat (first | refine blk_drewN ?_ _ | refine blk_drew ?_ | refine blk_alloc ?_ _)); refine blk_put (cs := #[.int .i64 0, .int .i64 0, .int .i64 0, .int .i64 0, .int .i64 0, .slice none 0 0]) ?_ 0 _ rfl; (with_reducible repeat (first | refine blk_drewN ?_ _ | refine blk_drew ?_ | refine blk_alloc ?_ _)); exact BK330.out) hb); have n1_ := Aside0.mk (below_step (by repeat (first | (with_reducible first | exact HB.out | apply below_alloc | apply pw_below_drewN | apply below_drew1 | refine below_set ?_ GE330.out) | exact HB.out)) hb); clear BK330; clear HB; have BK330 := n0_; have HB := n1_; clear n0_ n1_; (try clear hb); (try clear hb2); (try clear hk); (try clear hi); have hcz24_0 : w23.cell? ⟨gb330, 0, none⟩ = some (.int .i64 3) := (blk_cell BK330.out 0).trans rfl; have hcz24_1 : w23.cell? ⟨gb330, 1, none⟩ = some (.int .i64 0) := (blk_cell BK330.out 1).trans rfl; have hcz24_2 : w23.cell? ⟨gb330, 2, none⟩ = some (.int .i64 0) := (blk_cell BK330.out 2).trans rfl; have hcz24_3 : w23.cell? ⟨gb330, 3, none⟩ = some (.int .i64 0) := (blk_cell BK330.out 3).trans rfl; have hcz24_4 : w23.cell? ⟨gb330, 4, none⟩ = some (.int .i64 0) := (blk_cell BK330.out 4).trans rfl; have hcz24_5 : w23.cell? ⟨gb330, 5, none⟩ = some (.slice A0 y322.length c0) := (blk_cell BK330.out 5).trans rfl; have hfz24_0 := blk_frozen BK330.out 0; have hfz24_1 := blk_frozen BK330.out 1; have hfz24_2 := blk_frozen BK330.out 2; have hfz24_3 := blk_frozen BK330.out 3; have hfz24_4 := blk_frozen BK330.out 4; have hfz24_5 := blk_frozen BK330.out 5) | (go_at_call 31; (with_reducible refine (passepartoutlaw05_Great.calls k 3 0 0 0 0 _ _ y322 _ _ y326 t332 _ ?side1 ?side2 ?side3 ?side4 A17.out).mono ?_); (case side1 => repeat (first | exact (Kd.C_below HR325.out HB.out) | (with_reducible refine Kd.C_alloc ?_ _) | (with_reducible refine Kd.C_drewN ?_ _) | (with_reducible refine Kd.C_drew ?_))); (case side2 => exact HC325.out); (case side3 => repeat (first | exact (Kd.C_below HR329.out HB.out) | (with_reducible refine Kd.C_alloc ?_ _) | (with_reducible refine Kd.C_drewN ?_ _) | (with_reducible refine Kd.C_drew ?_))); (case side4 => exact HC329.out); rintro e w25 ⟨rfl, hb⟩; have n0_ := Aside0.mk (blk_below (g := gb330) (o := .cells #[.int .i64 3, .int .i64 0, .int .i64 0, .int .i64 0, .int .i64 0, .slice A0 y322.length c0] 27 (0, 0)) (by (with_reducible repeat (first | refine blk_drewN ?_ _ | refine blk_drew ?_ | refine blk_alloc ?_ _)); exact BK330.out) hb); have n1_ := Aside0.mk (below_step (by repeat (first | (with_reducible first | exact HB.out | apply below_alloc | apply pw_below_drewN | apply below_drew1 | refine below_set ?_ GE330.out) | exact HB.out)) hb); clear BK330; clear HB; have BK330 := n0_; have HB := n1_; clear n0_ n1_; (try clear hb); (try clear hb2); (try clear hk); (try clear hi); have hcz26_0 : w25.cell? ⟨gb330, 0, none⟩ = some (.int .i64 3) := (blk_cell BK330.out 0).trans rfl; have hcz26_1 : w25.cell? ⟨gb330, 1, none⟩ = some (.int .i64 0) := (blk_cell BK330.out 1).trans rfl; have hcz26_2 : w25.cell? ⟨gb330, 2, none⟩ = some (.int .i64 0) := (blk_cell BK330.out 2).trans rfl; have hcz26_3 : w25.cell? ⟨gb330, 3, none⟩ = some (.int .i64 0) := (blk_cell BK330.out 3).trans rfl; have hcz26_4 : w25.cell? ⟨gb330, 4, none⟩ = some (.int .i64 0) := (blk_cell BK330.out 4).trans rfl; have hcz26_5 : w25.cell? ⟨gb330, 5, none⟩ = some (.slice A0 y322.length c0) := (blk_cell BK330.out 5).trans rfl; have hfz26_0 := blk_frozen BK330.out 0; have hfz26_1 := blk_frozen BK330.out 1; have hfz26_2 := blk_frozen BK330.out 2; have hfz26_3 := blk_frozen BK330.out 3; have hfz26_4 := blk_frozen BK330.out 4; have hfz26_5 := blk_frozen BK330.out 5) | (go_at_call 21; (with_reducible refine (passepartoutref04_Check.calls k 3 0 0 0 0 _ _ y322 t333 _ ?side1 ?side2 A22.out).mono ?_); (case side1 => repeat (first | exact (Kd.C_below HR325.out HB.out) | (with_reducible refine Kd.C_alloc ?_ _) | (with_reducible refine Kd.C_drewN ?_ _) | (with_reducible refine Kd.C_drew ?_))); (case side2 => exact HC325.out); rintro e w27 ⟨rfl, hb⟩; have n0_ := Aside0.mk (blk_below (g := gb330) (o := .cells #[.int .i64 3, .int .i64 0, .int .i64 0, .int .i64 0, .int .i64 0, .slice A0 y322.length c0] 27 (0, 0)) (by (with_reducible repeat (first | refine blk_drewN ?_ _ | refine blk_drew ?_ | refine blk_alloc ?_ _)); exact BK330.out) hb); have n1_ := Aside0.mk (below_step (by repeat (first | (with_reducible first | exact HB.out | apply below_alloc | apply pw_below_drewN | apply below_drew1 | refine below_set ?_ GE330.out) | exact HB.out)) hb); clear BK330; clear HB; have BK330 := n0_; have HB := n1_; clear n0_ n1_; (try clear hb); (try clear hb2); (try clear hk); (try clear hi)))
              go_meet
              case rel => exact ⟨_, ((t333 != 0)), (by first | rfl | (simp; done) | (simp [*]; done)), H', ⟨by first | omega | exact Nat.le_refl _⟩, ⟨by (with_reducible repeat (first | refine blk_drewN ?_ _ | refine blk_drew ?_ | refine blk_alloc ?_ _)); exact BK330.out⟩, ⟨by repeat (first | (with_reducible first | exact HB.out | apply below_alloc | apply pw_below_drewN | apply below_drew1 | refine below_set ?_ GE330.out) | exact HB.out)⟩⟩
          · replace c16 := Bool.eq_false_iff.mpr c16
            subst c16
            have H1 : (passepartoutlaw05_ValueRows.j0 k y322 y326 ji4 true 3 0 0 0 0 y322) = some r := by rw [if_neg (show ¬ (false = true) by decide)] at H; exact H
            clear H
            have H := H1
            clear H1
            have H' := Aside0.mk H
            clear H
            go_wp2_with (first | ((with_reducible refine gate_callee (f := 30) rfl ?_); refine goesL_ (some 26) rfl rfl Try.func30 (by kernel_rfl) rfl #[] rfl (by (try simp only [List.map_toArray, List.map_cons, List.map_nil]); first | done | rfl | (simp only [List.length_drop, List.length_take]; rfl)) ?_; (with_reducible refine (passepartoutlaw05_alive.calls  false _ A15.out).mono ?_); rintro e w28 ⟨rfl, hb⟩; refine ⟨_, rfl, ?_⟩; have n0_ := Aside0.mk (blk_below (g := gb330) (o := .cells #[.int .i64 3, .int .i64 0, .int .i64 0, .int .i64 0, .int .i64 0, .slice A0 y322.length c0] 27 (0, 0)) (by (with_reducible repeat (first | refine blk_drewN ?_ _ | refine blk_drew ?_ | refine blk_alloc ?_ _)); refine blk_put (cs := #[.int .i64 3, .int .i64 0, .int .i64 0, .int .i64 0, .int .i64 0, .slice none 0 0]) ?_ 5 _ rfl; (with_reducible repeat (first | refine blk_drewN ?_ _ | refine blk_drew ?_ | refine blk_alloc ?_ _)); refine blk_put (cs := #[.int .i64 3, .int .i64 0, .int .i64 0, .int .i64 0, .int .i64 0, .slice none 0 0]) ?_ 4 _ rfl; (with_reducible repeat (first | refine blk_drewN ?_ _ | refine blk_drew ?_ | refine blk_alloc ?_ _)); refine blk_put (cs := #[.int .i64 3, .int .i64 0, .int .i64 0, .int .i64 0, .int .i64 0, .slice none 0 0]) ?_ 3 _ rfl; (with_reducible repeat (first | refine blk_drewN ?_ _ | refine blk_drew ?_ | refine blk_alloc ?_ _)); refine blk_put (cs := #[.int .i64 3, .int .i64 0, .int .i64 0, .int .i64 0, .int .i64 0, .slice none 0 0]) ?_ 2 _ rfl; (with_reducible repeat (first | refine blk_drewN ?_ _ | refine blk_drew ?_ | refine blk_alloc ?_ _)); refine blk_put (cs := #[.int .i64 3, .int .i64 0, .int .i64 0, .int .i64 0, .int .i64 0, .slice none 0 0]) ?_ 1 _ rfl; (with_reducible repeat (first | refine blk_drewN ?_ _ | refine blk_drew ?_ | refine blk_alloc ?_ _)); refine blk_put (cs := #[.int .i64 0, .int .i64 0, .int .i64 0, .int .i64 0, .int .i64 0, .slice none 0 0]) ?_ 0 _ rfl; (with_reducible repeat (first | refine blk_drewN ?_ _ | refine blk_drew ?_ | refine blk_alloc ?_ _)); exact BK330.out) hb); have n1_ := Aside0.mk (below_step (by repeat (first | (with_reducible first | exact HB.out | apply below_alloc | apply pw_below_drewN | apply below_drew1 | refine below_set ?_ GE330.out) | exact HB.out)) hb); clear BK330; clear HB; have BK330 := n0_; have HB := n1_; clear n0_ n1_; (try clear hb); (try clear hb2); (try clear hk); (try clear hi)))
            go_meet
            case rel => exact ⟨_, (true), (by first | rfl | (simp; done) | (simp [*]; done)), H', ⟨by first | omega | exact Nat.le_refl _⟩, ⟨by (with_reducible repeat (first | refine blk_drewN ?_ _ | refine blk_drew ?_ | refine blk_alloc ?_ _)); exact BK330.out⟩, ⟨by repeat (first | (with_reducible first | exact HB.out | apply below_alloc | apply pw_below_drewN | apply below_drew1 | refine below_set ?_ GE330.out) | exact HB.out)⟩⟩
        case rest =>
          clear HC9
          try clear c1
          try clear q1
          try clear p2
          try clear c3
          try clear c5
          try clear c5b0
          try clear c5b1
          try clear c6
          try clear c6b0
          try clear c6b1
          try clear c7
          try clear c7b0
          try clear c8
          try clear c8b0
          try clear c8b1
          try clear c9
          try clear q11
          try clear q12
          try clear c16
          try clear c18
          try clear c18b0
          try clear hcz14_0
          try clear hcz14_1
          try clear hcz14_2
          try clear hcz14_3
          try clear hcz14_4
          try clear hcz14_5
          try clear hcz20_0
          try clear hcz20_1
          try clear hcz20_2
          try clear hcz20_3
          try clear hcz20_4
          try clear hcz20_5
          try clear hcz24_0
          try clear hcz24_1
          try clear hcz24_2
          try clear hcz24_3
          try clear hcz24_4
          try clear hcz24_5
          try clear hcz26_0
          try clear hcz26_1
          try clear hcz26_2
          try clear hcz26_3
          try clear hcz26_4
          try clear hcz26_5
          try clear hfz14_0
          try clear hfz14_1
          try clear hfz14_2
          try clear hfz14_3
          try clear hfz14_4
          try clear hfz14_5
          try clear hfz20_0
          try clear hfz20_1
          try clear hfz20_2
          try clear hfz20_3
          try clear hfz20_4
          try clear hfz20_5
          try clear hfz24_0
          try clear hfz24_1
          try clear hfz24_2
          try clear hfz24_3
          try clear hfz24_4
          try clear hfz24_5
          try clear hfz26_0
          try clear hfz26_1
          try clear hfz26_2
          try clear hfz26_3
          try clear hfz26_4
          try clear hfz26_5
          try clear q11
          try clear q12
          obtain ⟨kq, x38_8, rfl, HA, HJ8, BK330, HB⟩ := hcut
          cases kq with
          | zero => exact absurd HA.out (by simp [passepartoutlaw05_ValueRows.j0])
          | succ kj8 =>
            have H := HA.out
            clear HA
            simp only [passepartoutlaw05_ValueRows.j0] at H
            by_cases c29 : x38_8 = true
            · subst c29
              have H1 : ((passepartoutlaw05_alive.f).bind fun t334 => (some t334)) = some r := by rw [if_pos rfl] at H; exact H
              clear H
              have H := H1
              clear H1
              replace H := Option.bind_eq_some_iff.mp H
              obtain ⟨t334, A300, H⟩ := H
              replace H : (some t334) = some r := H
              have A30 := Aside0.mk A300
              clear A300
              obtain rfl := Option.some.inj H
              go_wp2_with (first | ((with_reducible refine gate_callee (f := 30) rfl ?_); refine goesL_ (some 39) rfl rfl Try.func30 (by kernel_rfl) rfl #[] rfl (by (try simp only [List.map_toArray, List.map_cons, List.map_nil]); first | done | rfl | (simp only [List.length_drop, List.length_take]; rfl)) ?_; (with_reducible refine (passepartoutlaw05_alive.calls  t334 _ A30.out).mono ?_); rintro e w31 ⟨rfl, hb⟩; refine ⟨_, rfl, ?_⟩; have n0_ := Aside0.mk (blk_below (g := gb330) (o := .cells #[.int .i64 3, .int .i64 0, .int .i64 0, .int .i64 0, .int .i64 0, .slice A0 y322.length c0] 27 (0, 0)) (by (with_reducible repeat (first | refine blk_drewN ?_ _ | refine blk_drew ?_ | refine blk_alloc ?_ _)); exact BK330.out) hb); have n1_ := Aside0.mk (below_step (by repeat (first | (with_reducible first | exact HB.out | apply below_alloc | apply pw_below_drewN | apply below_drew1 | refine below_set ?_ GE330.out) | exact HB.out)) hb); clear BK330; clear HB; have BK330 := n0_; have HB := n1_; clear n0_ n1_; (try clear hb); (try clear hb2); (try clear hk); (try clear hi)))
              go_ret
              exact ⟨by first | rfl | (simp [errW_none, errW_some] <;> rfl) | (simp only [← hji3, ← hji4]; first | rfl | (simp [errW_none, errW_some] <;> rfl)) | (simp [*, errW_none, errW_some] <;> rfl), by repeat (first | (with_reducible first | exact HB.out | apply below_alloc | apply pw_below_drewN | apply below_drew1 | refine below_set ?_ GE330.out) | exact HB.out)⟩
            · replace c29 := Bool.eq_false_iff.mpr c29
              subst c29
              have H1 : (passepartoutlaw05_ValueRows.l0 kj8 y326 ji4 0 0 y322 (y322.length : Int) 0 3 0 0 0 0 y322) = some r := by rw [if_neg (show ¬ (false = true) by decide)] at H; exact H
              clear H
              have H := H1
              clear H1
              have H' := Aside0.mk H
              clear H
              go_wp2
              go_loopg [7, 8, 42] kj8 (fun kq v7 v8 v42 w' => ∃ (x7_2 : Int) (x8_2 : Int) (x42_2 : Int), v7 = .int .i64 x7_2 ∧ v8 = .int .i64 x8_2 ∧ v42 = .int .i64 x42_2 ∧ Aside0 (passepartoutlaw05_ValueRows.l0 kq y326 ji4 x7_2 x8_2 y322 (y322.length : Int) x42_2 3 0 0 0 0 y322 = some r) ∧ Aside0 (kq ≤ kj8) ∧ Aside0 (w'.heap[gb330]? = some (.cells #[.int .i64 3, .int .i64 0, .int .i64 0, .int .i64 0, .int .i64 0, (.slice A0 y322.length c0)] 27 (0, 0))) ∧ Aside0 (Below w.heap.size w w'))
              case atStart => exact ⟨(0), (0), (0), (by first | rfl | (simp; done) | (simp [*]; done)), (by first | rfl | (simp; done) | (simp [*]; done)), (by first | rfl | (simp; done) | (simp [*]; done)), H', ⟨Nat.le_refl _⟩, ⟨by (with_reducible repeat (first | refine blk_drewN ?_ _ | refine blk_drew ?_ | refine blk_alloc ?_ _)); exact BK330.out⟩, ⟨by repeat (first | (with_reducible first | exact HB.out | apply below_alloc | apply pw_below_drewN | apply below_drew1 | refine below_set ?_ GE330.out) | exact HB.out)⟩⟩
              case round =>
                clear H'
                try clear c1
                try clear q1
                try clear c2
                try clear p2
                try clear c3
                try clear c5
                try clear c5b0
                try clear c5b1
                try clear c6
                try clear c6b0
                try clear c6b1
                try clear c7
                try clear c7b0
                try clear c8
                try clear c8b0
                try clear c8b1
                try clear c9
                try clear q11
                try clear q12
                try clear c16
                try clear c18
                try clear c18b0
                try clear c29
                try clear c30
                try clear hcz14_0
                try clear hcz14_1
                try clear hcz14_2
                try clear hcz14_3
                try clear hcz14_4
                try clear hcz14_5
                try clear hcz20_0
                try clear hcz20_1
                try clear hcz20_2
                try clear hcz20_3
                try clear hcz20_4
                try clear hcz20_5
                try clear hcz24_0
                try clear hcz24_1
                try clear hcz24_2
                try clear hcz24_3
                try clear hcz24_4
                try clear hcz24_5
                try clear hcz26_0
                try clear hcz26_1
                try clear hcz26_2
                try clear hcz26_3
                try clear hcz26_4
                try clear hcz26_5
                try clear hfz14_0
                try clear hfz14_1
                try clear hfz14_2
                try clear hfz14_3
                try clear hfz14_4
                try clear hfz14_5
                try clear hfz20_0
                try clear hfz20_1
                try clear hfz20_2
                try clear hfz20_3
                try clear hfz20_4
                try clear hfz20_5
                try clear hfz24_0
                try clear hfz24_1
                try clear hfz24_2
                try clear hfz24_3
                try clear hfz24_4
                try clear hfz24_5
                try clear hfz26_0
                try clear hfz26_1
                try clear hfz26_2
                try clear hfz26_3
                try clear hfz26_4
                try clear hfz26_5
                try clear p2
                try clear q1
                try clear q11
                try clear q12
                obtain ⟨x7_2, x8_2, x42_2, rfl, rfl, rfl, HA, HK2, BK330, HB⟩ := hrel
                cases gk with
                | zero => exact absurd HA.out (by simp [passepartoutlaw05_ValueRows.l0])
                | succ k2 =>
                  have H := HA.out
                  clear HA
                  simp only [passepartoutlaw05_ValueRows.l0] at H
                  by_cases c32 : x42_2 < (y322.length : Int)
                  · rw [if_pos c32] at H
                    have c32b0 : decide (x42_2 < (y322.length : Int)) = true := decide_eq_true c32
                    clear c32
                    by_cases c33 : 0 ≤ x42_2
                    · rw [if_pos c33] at H
                      have c33b0 : decide (0 ≤ x42_2) = true := decide_eq_true c33
                      clear c33
                      by_cases c34 : x42_2 < (y322.length : Int)
                      · rw [if_pos c34] at H
                        have c34b0 : decide (x42_2 < (y322.length : Int)) = true := decide_eq_true c34
                        clear c34
                        by_cases c35 : x42_2 < (y326.length : Int)
                        · rw [if_pos c35] at H
                          have c35b0 : decide (x42_2 < (y326.length : Int)) = true := decide_eq_true c35
                          clear c35
                          replace H := Option.bind_eq_some_iff.mp H
                          obtain ⟨t338, A360, H⟩ := H
                          replace H : (if x8_2 = 0 then ((value_Size.f k2 ((rd_T27 y322 x42_2).f0) ((rd_T27 y322 x42_2).f1) ((rd_T27 y322 x42_2).f2) ((rd_T27 y322 x42_2).f3) ((rd_T27 y322 x42_2).f4) ((rd_T27 y322 x42_2).f5) ((rd_T46 y326 x42_2).f0) ((rd_T46 y326 x42_2).f1) ((rd_T46 y326 x42_2).f2)).bind fun t340 => (passepartoutlaw05_ValueRows.l0 k2 y326 ji4 (wrap64 (x7_2 + t340)) t338 y322 (y322.length : Int) (wrap64 (x42_2 + 1)) 3 0 0 0 0 y322)) else ((value_Size.f k2 ((rd_T27 y322 x42_2).f0) ((rd_T27 y322 x42_2).f1) ((rd_T27 y322 x42_2).f2) ((rd_T27 y322 x42_2).f3) ((rd_T27 y322 x42_2).f4) ((rd_T27 y322 x42_2).f5) ((rd_T46 y326 x42_2).f0) ((rd_T46 y326 x42_2).f1) ((rd_T46 y326 x42_2).f2)).bind fun t342 => (passepartoutlaw05_ValueRows.l0 k2 y326 ji4 (wrap64 (x7_2 + t342)) x8_2 y322 (y322.length : Int) (wrap64 (x42_2 + 1)) 3 0 0 0 0 y322))) = some r := H
                          have A36 := Aside0.mk A360
                          clear A360
                          by_cases c37 : x8_2 = 0
                          · rw [if_pos c37] at H
                            have c37b0 : (x8_2 == 0) = true := beq_iff_eq.mpr c37
                            have c37b1 : (x8_2 != 0) = false := bne_eq_false_iff_eq.mpr c37
                            clear c37
                            replace H := Option.bind_eq_some_iff.mp H
                            obtain ⟨t340, A380, H⟩ := H
                            replace H : (passepartoutlaw05_ValueRows.l0 k2 y326 ji4 (wrap64 (x7_2 + t340)) t338 y322 (y322.length : Int) (wrap64 (x42_2 + 1)) 3 0 0 0 0 y322) = some r := H
                            have A38 := Aside0.mk A380
                            clear A380
                            have H' := Aside0.mk H
                            clear H
                            have p335 : 0 ≤ (x42_2 : Int) := of_decide_eq_true (by first | (with_reducible assumption) | assumption)
                            have q335 : x42_2 < (y322.length : Int) := of_decide_eq_true (by first | (with_reducible assumption) | assumption)
                            obtain ⟨ad335, A335_5, c335_5, e335, hx335_0, hx335_1, hx335_2, hx335_3, hx335_4, hx335_5, hl335_5, hi335_5⟩ := at_T27 HR325.out x42_2 p335 q335
                            cases e335
                            replace hx335_0 := (HB.out.cell (World.block_lt_of_cell? w _ hx335_0)).trans hx335_0
                            replace hx335_1 := (HB.out.cell (World.block_lt_of_cell? w _ hx335_1)).trans hx335_1
                            replace hx335_2 := (HB.out.cell (World.block_lt_of_cell? w _ hx335_2)).trans hx335_2
                            replace hx335_3 := (HB.out.cell (World.block_lt_of_cell? w _ hx335_3)).trans hx335_3
                            replace hx335_4 := (HB.out.cell (World.block_lt_of_cell? w _ hx335_4)).trans hx335_4
                            replace hx335_5 := (HB.out.cell (World.block_lt_of_cell? w _ hx335_5)).trans hx335_5
                            have HR335_5 := Aside0.mk hi335_5
                            have HC335_5 := Aside0.mk hl335_5
                            clear hi335_5 hl335_5
                            replace p335 := eq_true p335
                            replace q335 := eq_true q335
                            try go_wp2_with (first | ((with_reducible refine gate_dst (N := 10) rfl ?_); refine box_event ?hg (N := 10) ?hd (cs := #[.int .i64 0, .int .i64 0, .int .i64 0, .int .i64 0, .int .i64 0, .slice none 0 0]) (t := 27) ?hr ?_; (case hd => rfl); (case hg => rfl); (case hr => first | (go_simp; done) | (go_simp; rfl)); intro gb336 hg w39 hbox hb; have n0_ := Aside0.mk (blk_below (g := gb330) (o := .cells #[.int .i64 3, .int .i64 0, .int .i64 0, .int .i64 0, .int .i64 0, .slice (some ad335) y322.length c0] 27 (0, 0)) (by (with_reducible repeat (first | refine blk_drewN ?_ _ | refine blk_drew ?_ | refine blk_alloc ?_ _)); exact BK330.out) hb); have n1_ := Aside0.mk (below_step (by repeat (first | (with_reducible first | exact HB.out | apply below_alloc | apply pw_below_drewN | apply below_drew1 | refine below_set ?_ GE330.out) | exact HB.out)) hb); have n2_ := Aside0.mk (hbox); have n3_ := Aside0.mk ((by rw [hg]; exact (below_size (by repeat (first | (with_reducible first | exact HB.out | apply below_alloc | apply pw_below_drewN | apply below_drew1 | refine below_set ?_ GE330.out) | exact HB.out))) : w.heap.size ≤ gb336)); have n4_ := Aside0.mk ((by rw [hg]; exact (below_size (by repeat (first | (with_reducible first | exact HB.out | apply below_alloc | apply pw_below_drewN | apply below_drew1 | refine below_set ?_ GE330.out) | exact HB.out))) : w.heap.size ≤ gb336)); have n5_ := Aside0.mk ((by rw [hg]; exact Nat.ne_of_lt (blk_lt (g := gb330) (o := .cells #[.int .i64 3, .int .i64 0, .int .i64 0, .int .i64 0, .int .i64 0, .slice (some ad335) y322.length c0] 27 (0, 0)) (by (with_reducible repeat (first | refine blk_drewN ?_ _ | refine blk_drew ?_ | refine blk_alloc ?_ _)); exact BK330.out)) : gb330 ≠ gb336)); have n6_ := Aside0.mk ((by rw [hg]; exact Nat.ne_of_gt (blk_lt (g := gb330) (o := .cells #[.int .i64 3, .int .i64 0, .int .i64 0, .int .i64 0, .int .i64 0, .slice (some ad335) y322.length c0] 27 (0, 0)) (by (with_reducible repeat (first | refine blk_drewN ?_ _ | refine blk_drew ?_ | refine blk_alloc ?_ _)); exact BK330.out)) : gb336 ≠ gb330)); clear BK330; clear HB; have BK330 := n0_; have HB := n1_; have BK336 := n2_; have GW336 := n3_; have GE336 := n4_; have NB330_336 := n5_; have NB336_330 := n6_; clear n0_ n1_ n2_ n3_ n4_ n5_ n6_; clear hb hbox hg; have hnb40 := NB336_330.out; have hnc40 := NB330_336.out; have hcz41_0 : w39.cell? ⟨gb336, 0, none⟩ = some (.int .i64 0) := (blk_cell BK336.out 0).trans rfl; have hcz41_1 : w39.cell? ⟨gb336, 1, none⟩ = some (.int .i64 0) := (blk_cell BK336.out 1).trans rfl; have hcz41_2 : w39.cell? ⟨gb336, 2, none⟩ = some (.int .i64 0) := (blk_cell BK336.out 2).trans rfl; have hcz41_3 : w39.cell? ⟨gb336, 3, none⟩ = some (.int .i64 0) := (blk_cell BK336.out 3).trans rfl; have hcz41_4 : w39.cell? ⟨gb336, 4, none⟩ = some (.int .i64 0) := (blk_cell BK336.out 4).trans rfl; have hcz41_5 : w39.cell? ⟨gb336, 5, none⟩ = some (.slice none 0 0) := (blk_cell BK336.out 5).trans rfl; have hfz41_0 := blk_frozen BK336.out 0; have hfz41_1 := blk_frozen BK336.out 1; have hfz41_2 := blk_frozen BK336.out 2; have hfz41_3 := blk_frozen BK336.out 3; have hfz41_4 := blk_frozen BK336.out 4; have hfz41_5 := blk_frozen BK336.out 5))
                            have n0_ : Aside0 (((((((w39.setCell ⟨gb336, 0, none⟩ (.int .i64 ((rd_T27 y322 x42_2).f0))).setCell ⟨gb336, 1, none⟩ (.int .i64 ((rd_T27 y322 x42_2).f1))).setCell ⟨gb336, 2, none⟩ (.int .i64 ((rd_T27 y322 x42_2).f2))).setCell ⟨gb336, 3, none⟩ (.int .i64 ((rd_T27 y322 x42_2).f3))).setCell ⟨gb336, 4, none⟩ (.int .i64 ((rd_T27 y322 x42_2).f4))).setCell ⟨gb336, 5, none⟩ (.slice A335_5 ((rd_T27 y322 x42_2).f5).length c335_5)).heap[gb330]? = some (.cells #[.int .i64 3, .int .i64 0, .int .i64 0, .int .i64 0, .int .i64 0, .slice (some ad335) y322.length c0] 27 (0, 0))) := ⟨by (with_reducible repeat (first | refine blk_drewN ?_ _ | refine blk_drew ?_ | refine blk_alloc ?_ _)); refine blk_far ?_ NB330_336.out _; (with_reducible repeat (first | refine blk_drewN ?_ _ | refine blk_drew ?_ | refine blk_alloc ?_ _)); refine blk_far ?_ NB330_336.out _; (with_reducible repeat (first | refine blk_drewN ?_ _ | refine blk_drew ?_ | refine blk_alloc ?_ _)); refine blk_far ?_ NB330_336.out _; (with_reducible repeat (first | refine blk_drewN ?_ _ | refine blk_drew ?_ | refine blk_alloc ?_ _)); refine blk_far ?_ NB330_336.out _; (with_reducible repeat (first | refine blk_drewN ?_ _ | refine blk_drew ?_ | refine blk_alloc ?_ _)); refine blk_far ?_ NB330_336.out _; (with_reducible repeat (first | refine blk_drewN ?_ _ | refine blk_drew ?_ | refine blk_alloc ?_ _)); refine blk_far ?_ NB330_336.out _; (with_reducible repeat (first | refine blk_drewN ?_ _ | refine blk_drew ?_ | refine blk_alloc ?_ _)); exact BK330.out⟩
                            have n1_ : Aside0 (((((((w39.setCell ⟨gb336, 0, none⟩ (.int .i64 ((rd_T27 y322 x42_2).f0))).setCell ⟨gb336, 1, none⟩ (.int .i64 ((rd_T27 y322 x42_2).f1))).setCell ⟨gb336, 2, none⟩ (.int .i64 ((rd_T27 y322 x42_2).f2))).setCell ⟨gb336, 3, none⟩ (.int .i64 ((rd_T27 y322 x42_2).f3))).setCell ⟨gb336, 4, none⟩ (.int .i64 ((rd_T27 y322 x42_2).f4))).setCell ⟨gb336, 5, none⟩ (.slice A335_5 ((rd_T27 y322 x42_2).f5).length c335_5)).heap[gb336]? = some (.cells #[.int .i64 ((rd_T27 y322 x42_2).f0), .int .i64 ((rd_T27 y322 x42_2).f1), .int .i64 ((rd_T27 y322 x42_2).f2), .int .i64 ((rd_T27 y322 x42_2).f3), .int .i64 ((rd_T27 y322 x42_2).f4), .slice A335_5 ((rd_T27 y322 x42_2).f5).length c335_5] 27 (0, 0))) := ⟨by (with_reducible repeat (first | refine blk_drewN ?_ _ | refine blk_drew ?_ | refine blk_alloc ?_ _)); refine blk_put (cs := #[.int .i64 ((rd_T27 y322 x42_2).f0), .int .i64 ((rd_T27 y322 x42_2).f1), .int .i64 ((rd_T27 y322 x42_2).f2), .int .i64 ((rd_T27 y322 x42_2).f3), .int .i64 ((rd_T27 y322 x42_2).f4), .slice none 0 0]) ?_ 5 _ rfl; (with_reducible repeat (first | refine blk_drewN ?_ _ | refine blk_drew ?_ | refine blk_alloc ?_ _)); refine blk_put (cs := #[.int .i64 ((rd_T27 y322 x42_2).f0), .int .i64 ((rd_T27 y322 x42_2).f1), .int .i64 ((rd_T27 y322 x42_2).f2), .int .i64 ((rd_T27 y322 x42_2).f3), .int .i64 0, .slice none 0 0]) ?_ 4 _ rfl; (with_reducible repeat (first | refine blk_drewN ?_ _ | refine blk_drew ?_ | refine blk_alloc ?_ _)); refine blk_put (cs := #[.int .i64 ((rd_T27 y322 x42_2).f0), .int .i64 ((rd_T27 y322 x42_2).f1), .int .i64 ((rd_T27 y322 x42_2).f2), .int .i64 0, .int .i64 0, .slice none 0 0]) ?_ 3 _ rfl; (with_reducible repeat (first | refine blk_drewN ?_ _ | refine blk_drew ?_ | refine blk_alloc ?_ _)); refine blk_put (cs := #[.int .i64 ((rd_T27 y322 x42_2).f0), .int .i64 ((rd_T27 y322 x42_2).f1), .int .i64 0, .int .i64 0, .int .i64 0, .slice none 0 0]) ?_ 2 _ rfl; (with_reducible repeat (first | refine blk_drewN ?_ _ | refine blk_drew ?_ | refine blk_alloc ?_ _)); refine blk_put (cs := #[.int .i64 ((rd_T27 y322 x42_2).f0), .int .i64 0, .int .i64 0, .int .i64 0, .int .i64 0, .slice none 0 0]) ?_ 1 _ rfl; (with_reducible repeat (first | refine blk_drewN ?_ _ | refine blk_drew ?_ | refine blk_alloc ?_ _)); refine blk_put (cs := #[.int .i64 0, .int .i64 0, .int .i64 0, .int .i64 0, .int .i64 0, .slice none 0 0]) ?_ 0 _ rfl; (with_reducible repeat (first | refine blk_drewN ?_ _ | refine blk_drew ?_ | refine blk_alloc ?_ _)); exact BK336.out⟩
                            have n2_ : Aside0 (Below w.heap.size w ((((((w39.setCell ⟨gb336, 0, none⟩ (.int .i64 ((rd_T27 y322 x42_2).f0))).setCell ⟨gb336, 1, none⟩ (.int .i64 ((rd_T27 y322 x42_2).f1))).setCell ⟨gb336, 2, none⟩ (.int .i64 ((rd_T27 y322 x42_2).f2))).setCell ⟨gb336, 3, none⟩ (.int .i64 ((rd_T27 y322 x42_2).f3))).setCell ⟨gb336, 4, none⟩ (.int .i64 ((rd_T27 y322 x42_2).f4))).setCell ⟨gb336, 5, none⟩ (.slice A335_5 ((rd_T27 y322 x42_2).f5).length c335_5))) := ⟨by repeat (first | (with_reducible first | exact HB.out | apply below_alloc | apply pw_below_drewN | apply below_drew1 | refine below_set ?_ GE330.out | refine below_set ?_ GE336.out) | exact HB.out)⟩
                            (try clear BK330)
                            (try clear BK336)
                            (try clear HB)
                            generalize ((((((w39.setCell ⟨gb336, 0, none⟩ (.int .i64 ((rd_T27 y322 x42_2).f0))).setCell ⟨gb336, 1, none⟩ (.int .i64 ((rd_T27 y322 x42_2).f1))).setCell ⟨gb336, 2, none⟩ (.int .i64 ((rd_T27 y322 x42_2).f2))).setCell ⟨gb336, 3, none⟩ (.int .i64 ((rd_T27 y322 x42_2).f3))).setCell ⟨gb336, 4, none⟩ (.int .i64 ((rd_T27 y322 x42_2).f4))).setCell ⟨gb336, 5, none⟩ (.slice A335_5 ((rd_T27 y322 x42_2).f5).length c335_5)) = w42 at n0_ n1_ n2_ ⊢
                            have BK330 := n0_
                            have BK336 := n1_
                            have HB := n2_
                            clear n0_ n1_ n2_
                            have n0_ := Aside0.mk (blk_drew BK330.out)
                            have n1_ := Aside0.mk (blk_drew BK336.out)
                            have n2_ := Aside0.mk (below_drew1 HB.out)
                            clear BK330
                            clear BK336
                            clear HB
                            have BK330 := n0_
                            have BK336 := n1_
                            have HB := n2_
                            clear n0_ n1_ n2_
                            have p337 : 0 ≤ (x42_2 : Int) := of_decide_eq_true (by first | (with_reducible assumption) | assumption)
                            have q337 : x42_2 < (y326.length : Int) := of_decide_eq_true (by first | (with_reducible assumption) | assumption)
                            obtain ⟨ad337, A337_1, c337_1, A337_2, c337_2, e337, hx337_0, hx337_1, hx337_2, hl337_1, hi337_1, hl337_2, hi337_2⟩ := at_T46 HR329.out x42_2 p337 q337
                            have hw337_2 := hx337_2
                            have hw337_1 := hx337_1
                            have hw337_0 := hx337_0
                            cases e337
                            replace hx337_0 := (HB.out.cell (World.block_lt_of_cell? w _ hx337_0)).trans hx337_0
                            replace hx337_1 := (HB.out.cell (World.block_lt_of_cell? w _ hx337_1)).trans hx337_1
                            replace hx337_2 := (HB.out.cell (World.block_lt_of_cell? w _ hx337_2)).trans hx337_2
                            have HR337_1 := Aside0.mk hi337_1
                            have HC337_1 := Aside0.mk hl337_1
                            clear hi337_1 hl337_1
                            have HR337_2 := Aside0.mk hi337_2
                            have HC337_2 := Aside0.mk hl337_2
                            clear hi337_2 hl337_2
                            replace p337 := eq_true p337
                            replace q337 := eq_true q337
                            refine start_ (n := 7) (S := fun w' => w'.cell? ⟨gb336, 0, none⟩ = some (.int .i64 ((rd_T27 y322 x42_2).f0)) ∧ w'.cell? ⟨gb336, 1, none⟩ = some (.int .i64 ((rd_T27 y322 x42_2).f1)) ∧ w'.cell? ⟨gb336, 2, none⟩ = some (.int .i64 ((rd_T27 y322 x42_2).f2)) ∧ w'.cell? ⟨gb336, 3, none⟩ = some (.int .i64 ((rd_T27 y322 x42_2).f3)) ∧ w'.cell? ⟨gb336, 4, none⟩ = some (.int .i64 ((rd_T27 y322 x42_2).f4)) ∧ w'.cell? ⟨gb336, 5, none⟩ = some (.slice A335_5 ((rd_T27 y322 x42_2).f5).length c335_5) ∧ w'.cell? (ad337.add ((x42_2).toNat * 3)) = some (.int .u64 ((rd_T46 y326 x42_2).f0)) ∧ w'.cell? ⟨(ad337.add ((x42_2).toNat * 3)).block, (ad337.add ((x42_2).toNat * 3)).off + 1, none⟩ = some (.slice A337_1 ((rd_T46 y326 x42_2).f1).length c337_1) ∧ w'.cell? ⟨(ad337.add ((x42_2).toNat * 3)).block, (ad337.add ((x42_2).toNat * 3)).off + 2, none⟩ = some (.slice A337_2 ((rd_T46 y326 x42_2).f2).length c337_2)) (ds := []) #[false, false, false, false, false, false, false] (by kernel_rfl) rfl rfl ⟨(blk_cell BK336.out 0).trans rfl, (blk_cell BK336.out 1).trans rfl, (blk_cell BK336.out 2).trans rfl, (blk_cell BK336.out 3).trans rfl, (blk_cell BK336.out 4).trans rfl, (blk_cell BK336.out 5).trans rfl, ((HB.out.cell (World.block_lt_of_cell? w _ hw337_0)).trans hw337_0), ((HB.out.cell (World.block_lt_of_cell? w _ hw337_1)).trans hw337_1), ((HB.out.cell (World.block_lt_of_cell? w _ hw337_2)).trans hw337_2)⟩ (fun hHeld => ?_)
                            generalize w42.drew = w43 at BK330 BK336 HB HR337_1 HR337_2 hx337_0 hx337_1 hx337_2 hHeld ⊢
                            refine pure_ (i := 1) (N := some 48) (v := ?_) (a' := ?_) #[false, true, false, false, false, false, false] rfl rfl (by kernel_rfl) (fun _ _ _ h => h) (Or.inl ⟨by rfl, ?_⟩) ?_ ?_
                            rotate_left
                            · intro w'
                              go_simp
                              with_reducible rfl
                            rotate_left
                            · simp only [Act.put, List.setIfInBounds_toArray, List.set_cons_zero, List.set_cons_succ, i64_w, i32_w]
                              rfl
                            refine pure_ (i := 2) (N := some 49) (v := ?_) (a' := ?_) #[false, true, true, false, false, false, false] rfl rfl (by kernel_rfl) (fun _ _ _ h => h) (Or.inl ⟨by rfl, ?_⟩) ?_ ?_
                            rotate_left
                            · intro w'
                              go_simp
                              with_reducible rfl
                            rotate_left
                            · simp only [Act.put, List.setIfInBounds_toArray, List.set_cons_zero, List.set_cons_succ, i64_w, i32_w]
                              rfl
                            refine pure_ (i := 3) (N := some 50) (v := ?_) (a' := ?_) #[false, true, true, true, false, false, false] rfl rfl (by kernel_rfl) (fun _ _ _ h => h) (Or.inl ⟨by rfl, ?_⟩) ?_ ?_
                            rotate_left
                            · intro w'
                              go_simp
                              with_reducible rfl
                            rotate_left
                            · simp only [Act.put, List.setIfInBounds_toArray, List.set_cons_zero, List.set_cons_succ, i64_w, i32_w]
                              rfl
                            refine take_ (i := 0) (N := some 47) (v := ?_) (a' := ?_) #[true, true, true, true, false, false, false] rfl rfl (by kernel_rfl) (fun _ _ _ h => h) (Or.inl ⟨by rfl, ?_⟩) hHeld ?_ ?_
                            rotate_left
                            · rintro w' ⟨s0, s1, s2, s3, s4, s5, s6, s7, s8⟩
                              go_simp
                              with_reducible rfl
                            rotate_left
                            · simp only [Act.put, List.setIfInBounds_toArray, List.set_cons_zero, List.set_cons_succ, i64_w, i32_w]
                              rfl
                            refine take_ (i := 4) (N := some 51) (v := ?_) (a' := ?_) #[true, true, true, true, true, false, false] rfl rfl (by kernel_rfl) (fun _ _ _ h => h) (Or.inl ⟨by rfl, ?_⟩) hHeld ?_ ?_
                            rotate_left
                            · rintro w' ⟨s0, s1, s2, s3, s4, s5, s6, s7, s8⟩
                              go_simp
                              with_reducible rfl
                            rotate_left
                            · simp only [Act.put, List.setIfInBounds_toArray, List.set_cons_zero, List.set_cons_succ, i64_w, i32_w]
                              rfl
                            refine one_ (i := 5) (N := some 52) #[true, true, true, true, true, true, false] rfl rfl (by kernel_rfl) (by decide) (fun K hK => ?_)
                            refine goes_ Try.func33 (by kernel_rfl) rfl #[.agg #[.int .i64 ((rd_T27 y322 x42_2).f0), .int .i64 ((rd_T27 y322 x42_2).f1), .int .i64 ((rd_T27 y322 x42_2).f2), .int .i64 ((rd_T27 y322 x42_2).f3), .int .i64 ((rd_T27 y322 x42_2).f4), .slice A335_5 ((rd_T27 y322 x42_2).f5).length c335_5], .agg #[.int .u64 ((rd_T46 y326 x42_2).f0), .slice A337_1 ((rd_T46 y326 x42_2).f1).length c337_1, .slice A337_2 ((rd_T46 y326 x42_2).f2).length c337_2]] (by rfl) rfl rfl (by (try simp only [List.map_toArray, List.map_cons, List.map_nil]); first | done | rfl | (simp only [List.length_drop, List.length_take]; rfl)) ?_
                            with_reducible refine (value_Fits.calls k2 ((rd_T27 y322 x42_2).f0) ((rd_T27 y322 x42_2).f1) ((rd_T27 y322 x42_2).f2) ((rd_T27 y322 x42_2).f3) ((rd_T27 y322 x42_2).f4) _ _ ((rd_T27 y322 x42_2).f5) ((rd_T46 y326 x42_2).f0) _ _ ((rd_T46 y326 x42_2).f1) _ _ ((rd_T46 y326 x42_2).f2) t338 _ ?side1 ?side2 ?side3 ?side4 ?side5 ?side6 A36.out).mono ?_
                            (case side1 => repeat (first | exact (Kd.C_below HR335_5.out HB.out) | (with_reducible refine Kd.C_alloc ?_ _) | (with_reducible refine Kd.C_drewN ?_ _) | (with_reducible refine Kd.C_drew ?_)))
                            (case side2 => exact HC335_5.out)
                            (case side3 => repeat (first | exact (Kd.C_below HR337_1.out HB.out) | (with_reducible refine Kd.C_alloc ?_ _) | (with_reducible refine Kd.C_drewN ?_ _) | (with_reducible refine Kd.C_drew ?_)))
                            (case side4 => exact HC337_1.out)
                            (case side5 => repeat (first | exact (Kd.C_below HR337_2.out HB.out) | (with_reducible refine Kd.C_alloc ?_ _) | (with_reducible refine Kd.C_drewN ?_ _) | (with_reducible refine Kd.C_drew ?_)))
                            (case side6 => exact HC337_2.out)
                            rintro e w44 ⟨rfl, hb⟩
                            refine ⟨_, rfl, ?_⟩
                            have n0_ := Aside0.mk (blk_below (g := gb330) (o := .cells #[.int .i64 3, .int .i64 0, .int .i64 0, .int .i64 0, .int .i64 0, .slice (some ad335) y322.length c0] 27 (0, 0)) (by (with_reducible repeat (first | refine blk_drewN ?_ _ | refine blk_drew ?_ | refine blk_alloc ?_ _)); exact BK330.out) hb)
                            have n1_ := Aside0.mk (blk_below (g := gb336) (o := .cells #[.int .i64 ((rd_T27 y322 x42_2).f0), .int .i64 ((rd_T27 y322 x42_2).f1), .int .i64 ((rd_T27 y322 x42_2).f2), .int .i64 ((rd_T27 y322 x42_2).f3), .int .i64 ((rd_T27 y322 x42_2).f4), .slice A335_5 ((rd_T27 y322 x42_2).f5).length c335_5] 27 (0, 0)) (by (with_reducible repeat (first | refine blk_drewN ?_ _ | refine blk_drew ?_ | refine blk_alloc ?_ _)); exact BK336.out) hb)
                            have n2_ := Aside0.mk (below_step (by repeat (first | (with_reducible first | exact HB.out | apply below_alloc | apply pw_below_drewN | apply below_drew1 | refine below_set ?_ GE330.out | refine below_set ?_ GE336.out) | exact HB.out)) hb)
                            clear BK330
                            clear BK336
                            clear HB
                            have BK330 := n0_
                            have BK336 := n1_
                            have HB := n2_
                            clear n0_ n1_ n2_
                            (try clear hb)
                            (try clear hb2)
                            (try clear hk)
                            (try clear hi)
                            refine hK.out _ _ ⟨(blk_cell BK336.out 0).trans rfl, (blk_cell BK336.out 1).trans rfl, (blk_cell BK336.out 2).trans rfl, (blk_cell BK336.out 3).trans rfl, (blk_cell BK336.out 4).trans rfl, (blk_cell BK336.out 5).trans rfl, ((HB.out.cell (World.block_lt_of_cell? w _ hw337_0)).trans hw337_0), ((HB.out.cell (World.block_lt_of_cell? w _ hw337_1)).trans hw337_1), ((HB.out.cell (World.block_lt_of_cell? w _ hw337_2)).trans hw337_2)⟩ (fun hHeld => ?_)
                            clear hK K
                            refine norm_ (a' := ?_) ?_ ?_
                            rotate_left
                            · show Act.put _ (some 52) _ = _
                              simp only [Act.put, List.setIfInBounds_toArray, List.set_cons_zero, List.set_cons_succ, i64_w, i32_w]
                              rfl
                            refine pure_ (i := 6) (N := some 11) (v := ?_) (a' := ?_) #[true, true, true, true, true, true, true] rfl rfl (by kernel_rfl) (fun _ _ _ h => h) (Or.inl ⟨by rfl, ?_⟩) ?_ ?_
                            rotate_left
                            · intro w'
                              go_simp
                              with_reducible rfl
                            rotate_left
                            · simp only [Act.put, List.setIfInBounds_toArray, List.set_cons_zero, List.set_cons_succ, i64_w, i32_w]
                              rfl
                            refine done_ (by kernel_rfl) ?_
                            try go_wp2
                            have n0_ := Aside0.mk (blk_drew BK330.out)
                            have n1_ := Aside0.mk (blk_drew BK336.out)
                            have n2_ := Aside0.mk (below_drew1 HB.out)
                            clear BK330
                            clear BK336
                            clear HB
                            have BK330 := n0_
                            have BK336 := n1_
                            have HB := n2_
                            clear n0_ n1_ n2_
                            have p339 : 0 ≤ (x42_2 : Int) := of_decide_eq_true (by first | (with_reducible assumption) | assumption)
                            have q339 : x42_2 < (y326.length : Int) := of_decide_eq_true (by first | (with_reducible assumption) | assumption)
                            obtain ⟨ad339, A339_1, c339_1, A339_2, c339_2, e339, hx339_0, hx339_1, hx339_2, hl339_1, hi339_1, hl339_2, hi339_2⟩ := at_T46 HR329.out x42_2 p339 q339
                            have hw339_2 := hx339_2
                            have hw339_1 := hx339_1
                            have hw339_0 := hx339_0
                            obtain rfl : ad337 = ad339 := (by injection e339)
                            replace hx339_0 := (HB.out.cell (World.block_lt_of_cell? w _ hx339_0)).trans hx339_0
                            replace hx339_1 := (HB.out.cell (World.block_lt_of_cell? w _ hx339_1)).trans hx339_1
                            replace hx339_2 := (HB.out.cell (World.block_lt_of_cell? w _ hx339_2)).trans hx339_2
                            have HR339_1 := Aside0.mk hi339_1
                            have HC339_1 := Aside0.mk hl339_1
                            clear hi339_1 hl339_1
                            have HR339_2 := Aside0.mk hi339_2
                            have HC339_2 := Aside0.mk hl339_2
                            clear hi339_2 hl339_2
                            replace p339 := eq_true p339
                            replace q339 := eq_true q339
                            refine start_ (n := 9) (S := fun w' => w'.cell? ⟨gb336, 0, none⟩ = some (.int .i64 ((rd_T27 y322 x42_2).f0)) ∧ w'.cell? ⟨gb336, 1, none⟩ = some (.int .i64 ((rd_T27 y322 x42_2).f1)) ∧ w'.cell? ⟨gb336, 2, none⟩ = some (.int .i64 ((rd_T27 y322 x42_2).f2)) ∧ w'.cell? ⟨gb336, 3, none⟩ = some (.int .i64 ((rd_T27 y322 x42_2).f3)) ∧ w'.cell? ⟨gb336, 4, none⟩ = some (.int .i64 ((rd_T27 y322 x42_2).f4)) ∧ w'.cell? ⟨gb336, 5, none⟩ = some (.slice A335_5 ((rd_T27 y322 x42_2).f5).length c335_5) ∧ w'.cell? (ad337.add ((x42_2).toNat * 3)) = some (.int .u64 ((rd_T46 y326 x42_2).f0)) ∧ w'.cell? ⟨(ad337.add ((x42_2).toNat * 3)).block, (ad337.add ((x42_2).toNat * 3)).off + 1, none⟩ = some (.slice A339_1 ((rd_T46 y326 x42_2).f1).length c339_1) ∧ w'.cell? ⟨(ad337.add ((x42_2).toNat * 3)).block, (ad337.add ((x42_2).toNat * 3)).off + 2, none⟩ = some (.slice A339_2 ((rd_T46 y326 x42_2).f2).length c339_2)) (ds := []) #[false, false, false, false, false, false, false, false, false] (by kernel_rfl) rfl rfl ⟨(blk_cell BK336.out 0).trans rfl, (blk_cell BK336.out 1).trans rfl, (blk_cell BK336.out 2).trans rfl, (blk_cell BK336.out 3).trans rfl, (blk_cell BK336.out 4).trans rfl, (blk_cell BK336.out 5).trans rfl, ((HB.out.cell (World.block_lt_of_cell? w _ hw339_0)).trans hw339_0), ((HB.out.cell (World.block_lt_of_cell? w _ hw339_1)).trans hw339_1), ((HB.out.cell (World.block_lt_of_cell? w _ hw339_2)).trans hw339_2)⟩ (fun hHeld => ?_); refine with_tabW passepartoutlaw05_ValueRows.tab13 passepartoutlaw05_ValueRows.bits13 (fun HT_ HW_ => ?_)
                            generalize w44.drew = w45 at BK330 BK336 HB HR339_1 HR339_2 hx339_0 hx339_1 hx339_2 hHeld ⊢
                            refine pure_ (i := 0) (N := some 56) (v := ?_) (a' := ?_) #[true, false, false, false, false, false, false, false, false] rfl rfl (any_of HT_.out (by kernel_rfl)) (fun _ _ _ h => h) (Or.inl ⟨by rfl, ?_⟩) ?_ ?_
                            rotate_left
                            · intro w'
                              go_simp
                              with_reducible rfl
                            rotate_left
                            · simp only [Act.put, List.setIfInBounds_toArray, List.set_cons_zero, List.set_cons_succ, i64_w, i32_w]
                              rfl
                            refine pure_ (i := 2) (N := some 58) (v := ?_) (a' := ?_) #[true, false, true, false, false, false, false, false, false] rfl rfl (any_of HT_.out (by kernel_rfl)) (fun _ _ _ h => h) (Or.inl ⟨by rfl, ?_⟩) ?_ ?_
                            rotate_left
                            · intro w'
                              go_simp
                              with_reducible rfl
                            rotate_left
                            · simp only [Act.put, List.setIfInBounds_toArray, List.set_cons_zero, List.set_cons_succ, i64_w, i32_w]
                              rfl
                            refine pure_ (i := 3) (N := some 59) (v := ?_) (a' := ?_) #[true, false, true, true, false, false, false, false, false] rfl rfl (any_of HT_.out (by kernel_rfl)) (fun _ _ _ h => h) (Or.inl ⟨by rfl, ?_⟩) ?_ ?_
                            rotate_left
                            · intro w'
                              go_simp
                              with_reducible rfl
                            rotate_left
                            · simp only [Act.put, List.setIfInBounds_toArray, List.set_cons_zero, List.set_cons_succ, i64_w, i32_w]
                              rfl
                            refine pure_ (i := 4) (N := some 60) (v := ?_) (a' := ?_) #[true, false, true, true, true, false, false, false, false] rfl rfl (any_of HT_.out (by kernel_rfl)) (fun _ _ _ h => h) (Or.inl ⟨by rfl, ?_⟩) ?_ ?_
                            rotate_left
                            · intro w'
                              go_simp
                              with_reducible rfl
                            rotate_left
                            · simp only [Act.put, List.setIfInBounds_toArray, List.set_cons_zero, List.set_cons_succ, i64_w, i32_w]
                              rfl
                            refine take_ (i := 1) (N := some 57) (v := ?_) (a' := ?_) #[true, true, true, true, true, false, false, false, false] rfl rfl (take_ofW HT_.out HW_.out (by kernel_rfl)) (fun _ _ _ h => h) (Or.inl ⟨by rfl, ?_⟩) hHeld ?_ ?_
                            rotate_left
                            · rintro w' ⟨s0, s1, s2, s3, s4, s5, s6, s7, s8⟩
                              go_simp
                              with_reducible rfl
                            rotate_left
                            · simp only [Act.put, List.setIfInBounds_toArray, List.set_cons_zero, List.set_cons_succ, i64_w, i32_w]
                              rfl
                            refine take_ (i := 5) (N := some 61) (v := ?_) (a' := ?_) #[true, true, true, true, true, true, false, false, false] rfl rfl (take_ofW HT_.out HW_.out (by kernel_rfl)) (fun _ _ _ h => h) (Or.inl ⟨by rfl, ?_⟩) hHeld ?_ ?_
                            rotate_left
                            · rintro w' ⟨s0, s1, s2, s3, s4, s5, s6, s7, s8⟩
                              go_simp
                              with_reducible rfl
                            rotate_left
                            · simp only [Act.put, List.setIfInBounds_toArray, List.set_cons_zero, List.set_cons_succ, i64_w, i32_w]
                              rfl
                            refine one_ (i := 6) (N := some 62) #[true, true, true, true, true, true, true, false, false] rfl rfl (one_of HT_.out (by kernel_rfl)) (by decide) (fun K hK => ?_)
                            refine goes_ Try.func32 (by kernel_rfl) rfl #[.agg #[.int .i64 ((rd_T27 y322 x42_2).f0), .int .i64 ((rd_T27 y322 x42_2).f1), .int .i64 ((rd_T27 y322 x42_2).f2), .int .i64 ((rd_T27 y322 x42_2).f3), .int .i64 ((rd_T27 y322 x42_2).f4), .slice A335_5 ((rd_T27 y322 x42_2).f5).length c335_5], .agg #[.int .u64 ((rd_T46 y326 x42_2).f0), .slice A339_1 ((rd_T46 y326 x42_2).f1).length c339_1, .slice A339_2 ((rd_T46 y326 x42_2).f2).length c339_2]] (by rfl) rfl rfl (by (try simp only [List.map_toArray, List.map_cons, List.map_nil]); first | done | rfl | (simp only [List.length_drop, List.length_take]; rfl)) ?_
                            with_reducible refine (value_Size.calls k2 ((rd_T27 y322 x42_2).f0) ((rd_T27 y322 x42_2).f1) ((rd_T27 y322 x42_2).f2) ((rd_T27 y322 x42_2).f3) ((rd_T27 y322 x42_2).f4) _ _ ((rd_T27 y322 x42_2).f5) ((rd_T46 y326 x42_2).f0) _ _ ((rd_T46 y326 x42_2).f1) _ _ ((rd_T46 y326 x42_2).f2) t340 _ ?side1 ?side2 ?side3 ?side4 ?side5 ?side6 A38.out).mono ?_
                            (case side1 => repeat (first | exact (Kd.C_below HR335_5.out HB.out) | (with_reducible refine Kd.C_alloc ?_ _) | (with_reducible refine Kd.C_drewN ?_ _) | (with_reducible refine Kd.C_drew ?_)))
                            (case side2 => exact HC335_5.out)
                            (case side3 => repeat (first | exact (Kd.C_below HR339_1.out HB.out) | (with_reducible refine Kd.C_alloc ?_ _) | (with_reducible refine Kd.C_drewN ?_ _) | (with_reducible refine Kd.C_drew ?_)))
                            (case side4 => exact HC339_1.out)
                            (case side5 => repeat (first | exact (Kd.C_below HR339_2.out HB.out) | (with_reducible refine Kd.C_alloc ?_ _) | (with_reducible refine Kd.C_drewN ?_ _) | (with_reducible refine Kd.C_drew ?_)))
                            (case side6 => exact HC339_2.out)
                            rintro e w46 ⟨rfl, hb⟩
                            refine ⟨_, rfl, ?_⟩
                            have n0_ := Aside0.mk (blk_below (g := gb330) (o := .cells #[.int .i64 3, .int .i64 0, .int .i64 0, .int .i64 0, .int .i64 0, .slice (some ad335) y322.length c0] 27 (0, 0)) (by (with_reducible repeat (first | refine blk_drewN ?_ _ | refine blk_drew ?_ | refine blk_alloc ?_ _)); exact BK330.out) hb)
                            have n1_ := Aside0.mk (blk_below (g := gb336) (o := .cells #[.int .i64 ((rd_T27 y322 x42_2).f0), .int .i64 ((rd_T27 y322 x42_2).f1), .int .i64 ((rd_T27 y322 x42_2).f2), .int .i64 ((rd_T27 y322 x42_2).f3), .int .i64 ((rd_T27 y322 x42_2).f4), .slice A335_5 ((rd_T27 y322 x42_2).f5).length c335_5] 27 (0, 0)) (by (with_reducible repeat (first | refine blk_drewN ?_ _ | refine blk_drew ?_ | refine blk_alloc ?_ _)); exact BK336.out) hb)
                            have n2_ := Aside0.mk (below_step (by repeat (first | (with_reducible first | exact HB.out | apply below_alloc | apply pw_below_drewN | apply below_drew1 | refine below_set ?_ GE330.out | refine below_set ?_ GE336.out) | exact HB.out)) hb)
                            clear BK330
                            clear BK336
                            clear HB
                            have BK330 := n0_
                            have BK336 := n1_
                            have HB := n2_
                            clear n0_ n1_ n2_
                            (try clear hb)
                            (try clear hb2)
                            (try clear hk)
                            (try clear hi)
                            refine hK.out _ _ ⟨(blk_cell BK336.out 0).trans rfl, (blk_cell BK336.out 1).trans rfl, (blk_cell BK336.out 2).trans rfl, (blk_cell BK336.out 3).trans rfl, (blk_cell BK336.out 4).trans rfl, (blk_cell BK336.out 5).trans rfl, ((HB.out.cell (World.block_lt_of_cell? w _ hw339_0)).trans hw339_0), ((HB.out.cell (World.block_lt_of_cell? w _ hw339_1)).trans hw339_1), ((HB.out.cell (World.block_lt_of_cell? w _ hw339_2)).trans hw339_2)⟩ (fun hHeld => ?_)
                            clear hK K
                            refine norm_ (a' := ?_) ?_ ?_
                            rotate_left
                            · show Act.put _ (some 62) _ = _
                              simp only [Act.put, List.setIfInBounds_toArray, List.set_cons_zero, List.set_cons_succ, i64_w, i32_w]
                              rfl
                            refine pure_ (i := 7) (N := some 63) (v := ?_) (a' := ?_) #[true, true, true, true, true, true, true, true, false] rfl rfl (any_of HT_.out (by kernel_rfl)) (fun _ _ _ h => h) (Or.inl ⟨by rfl, ?_⟩) ?_ ?_
                            rotate_left
                            · intro w'
                              go_simp
                              with_reducible rfl
                            rotate_left
                            · simp only [Act.put, List.setIfInBounds_toArray, List.set_cons_zero, List.set_cons_succ, i64_w, i32_w]
                              rfl
                            refine pure_ (i := 8) (N := some 7) (v := ?_) (a' := ?_) #[true, true, true, true, true, true, true, true, true] rfl rfl (any_of HT_.out (by kernel_rfl)) (fun _ _ _ h => h) (Or.inl ⟨by rfl, ?_⟩) ?_ ?_
                            rotate_left
                            · intro w'
                              go_simp
                              with_reducible rfl
                            rotate_left
                            · simp only [Act.put, List.setIfInBounds_toArray, List.set_cons_zero, List.set_cons_succ, i64_w, i32_w]
                              rfl
                            refine done_ (done_of HT_.out (by kernel_rfl)) ?_
                            try go_wp2
                            go_roundg k2
                            case measure => have := HJ8.out; have := HK2.out; omega
                            case rel => exact ⟨(wrap64 (x7_2 + t340)), (t338), (wrap64 (x42_2 + 1)), (by first | rfl | (simp; done) | (simp [*]; done)), (by first | rfl | (simp; done) | (simp [*]; done)), (by first | rfl | (simp; done) | (simp [*]; done)), H', ⟨by have := HJ8.out; have := HK2.out; omega⟩, ⟨by (with_reducible repeat (first | refine blk_drewN ?_ _ | refine blk_drew ?_ | refine blk_alloc ?_ _)); exact BK330.out⟩, ⟨by repeat (first | (with_reducible first | exact HB.out | apply below_alloc | apply pw_below_drewN | apply below_drew1 | refine below_set ?_ GE330.out | refine below_set ?_ GE336.out) | exact HB.out)⟩⟩
                          · rw [if_neg c37] at H
                            have c37b0 : (x8_2 == 0) = false := beq_eq_false_iff_ne.mpr c37
                            have c37b1 : (x8_2 != 0) = true := bne_iff_ne.mpr c37
                            replace H := Option.bind_eq_some_iff.mp H
                            obtain ⟨t342, A470, H⟩ := H
                            replace H : (passepartoutlaw05_ValueRows.l0 k2 y326 ji4 (wrap64 (x7_2 + t342)) x8_2 y322 (y322.length : Int) (wrap64 (x42_2 + 1)) 3 0 0 0 0 y322) = some r := H
                            have A47 := Aside0.mk A470
                            clear A470
                            have H' := Aside0.mk H
                            clear H
                            have p335 : 0 ≤ (x42_2 : Int) := of_decide_eq_true (by first | (with_reducible assumption) | assumption)
                            have q335 : x42_2 < (y322.length : Int) := of_decide_eq_true (by first | (with_reducible assumption) | assumption)
                            obtain ⟨ad335, A335_5, c335_5, e335, hx335_0, hx335_1, hx335_2, hx335_3, hx335_4, hx335_5, hl335_5, hi335_5⟩ := at_T27 HR325.out x42_2 p335 q335
                            cases e335
                            replace hx335_0 := (HB.out.cell (World.block_lt_of_cell? w _ hx335_0)).trans hx335_0
                            replace hx335_1 := (HB.out.cell (World.block_lt_of_cell? w _ hx335_1)).trans hx335_1
                            replace hx335_2 := (HB.out.cell (World.block_lt_of_cell? w _ hx335_2)).trans hx335_2
                            replace hx335_3 := (HB.out.cell (World.block_lt_of_cell? w _ hx335_3)).trans hx335_3
                            replace hx335_4 := (HB.out.cell (World.block_lt_of_cell? w _ hx335_4)).trans hx335_4
                            replace hx335_5 := (HB.out.cell (World.block_lt_of_cell? w _ hx335_5)).trans hx335_5
                            have HR335_5 := Aside0.mk hi335_5
                            have HC335_5 := Aside0.mk hl335_5
                            clear hi335_5 hl335_5
                            replace p335 := eq_true p335
                            replace q335 := eq_true q335
                            try go_wp2_with (first | ((with_reducible refine gate_dst (N := 10) rfl ?_); refine box_event ?hg (N := 10) ?hd (cs := #[.int .i64 0, .int .i64 0, .int .i64 0, .int .i64 0, .int .i64 0, .slice none 0 0]) (t := 27) ?hr ?_; (case hd => rfl); (case hg => rfl); (case hr => first | (go_simp; done) | (go_simp; rfl)); intro gb336 hg w48 hbox hb; have n0_ := Aside0.mk (blk_below (g := gb330) (o := .cells #[.int .i64 3, .int .i64 0, .int .i64 0, .int .i64 0, .int .i64 0, .slice (some ad335) y322.length c0] 27 (0, 0)) (by (with_reducible repeat (first | refine blk_drewN ?_ _ | refine blk_drew ?_ | refine blk_alloc ?_ _)); exact BK330.out) hb); have n1_ := Aside0.mk (below_step (by repeat (first | (with_reducible first | exact HB.out | apply below_alloc | apply pw_below_drewN | apply below_drew1 | refine below_set ?_ GE330.out) | exact HB.out)) hb); have n2_ := Aside0.mk (hbox); have n3_ := Aside0.mk ((by rw [hg]; exact (below_size (by repeat (first | (with_reducible first | exact HB.out | apply below_alloc | apply pw_below_drewN | apply below_drew1 | refine below_set ?_ GE330.out) | exact HB.out))) : w.heap.size ≤ gb336)); have n4_ := Aside0.mk ((by rw [hg]; exact (below_size (by repeat (first | (with_reducible first | exact HB.out | apply below_alloc | apply pw_below_drewN | apply below_drew1 | refine below_set ?_ GE330.out) | exact HB.out))) : w.heap.size ≤ gb336)); have n5_ := Aside0.mk ((by rw [hg]; exact Nat.ne_of_lt (blk_lt (g := gb330) (o := .cells #[.int .i64 3, .int .i64 0, .int .i64 0, .int .i64 0, .int .i64 0, .slice (some ad335) y322.length c0] 27 (0, 0)) (by (with_reducible repeat (first | refine blk_drewN ?_ _ | refine blk_drew ?_ | refine blk_alloc ?_ _)); exact BK330.out)) : gb330 ≠ gb336)); have n6_ := Aside0.mk ((by rw [hg]; exact Nat.ne_of_gt (blk_lt (g := gb330) (o := .cells #[.int .i64 3, .int .i64 0, .int .i64 0, .int .i64 0, .int .i64 0, .slice (some ad335) y322.length c0] 27 (0, 0)) (by (with_reducible repeat (first | refine blk_drewN ?_ _ | refine blk_drew ?_ | refine blk_alloc ?_ _)); exact BK330.out)) : gb336 ≠ gb330)); clear BK330; clear HB; have BK330 := n0_; have HB := n1_; have BK336 := n2_; have GW336 := n3_; have GE336 := n4_; have NB330_336 := n5_; have NB336_330 := n6_; clear n0_ n1_ n2_ n3_ n4_ n5_ n6_; clear hb hbox hg; have hnb49 := NB336_330.out; have hnc49 := NB330_336.out; have hcz50_0 : w48.cell? ⟨gb336, 0, none⟩ = some (.int .i64 0) := (blk_cell BK336.out 0).trans rfl; have hcz50_1 : w48.cell? ⟨gb336, 1, none⟩ = some (.int .i64 0) := (blk_cell BK336.out 1).trans rfl; have hcz50_2 : w48.cell? ⟨gb336, 2, none⟩ = some (.int .i64 0) := (blk_cell BK336.out 2).trans rfl; have hcz50_3 : w48.cell? ⟨gb336, 3, none⟩ = some (.int .i64 0) := (blk_cell BK336.out 3).trans rfl; have hcz50_4 : w48.cell? ⟨gb336, 4, none⟩ = some (.int .i64 0) := (blk_cell BK336.out 4).trans rfl; have hcz50_5 : w48.cell? ⟨gb336, 5, none⟩ = some (.slice none 0 0) := (blk_cell BK336.out 5).trans rfl; have hfz50_0 := blk_frozen BK336.out 0; have hfz50_1 := blk_frozen BK336.out 1; have hfz50_2 := blk_frozen BK336.out 2; have hfz50_3 := blk_frozen BK336.out 3; have hfz50_4 := blk_frozen BK336.out 4; have hfz50_5 := blk_frozen BK336.out 5))
                            have n0_ : Aside0 (((((((w48.setCell ⟨gb336, 0, none⟩ (.int .i64 ((rd_T27 y322 x42_2).f0))).setCell ⟨gb336, 1, none⟩ (.int .i64 ((rd_T27 y322 x42_2).f1))).setCell ⟨gb336, 2, none⟩ (.int .i64 ((rd_T27 y322 x42_2).f2))).setCell ⟨gb336, 3, none⟩ (.int .i64 ((rd_T27 y322 x42_2).f3))).setCell ⟨gb336, 4, none⟩ (.int .i64 ((rd_T27 y322 x42_2).f4))).setCell ⟨gb336, 5, none⟩ (.slice A335_5 ((rd_T27 y322 x42_2).f5).length c335_5)).heap[gb330]? = some (.cells #[.int .i64 3, .int .i64 0, .int .i64 0, .int .i64 0, .int .i64 0, .slice (some ad335) y322.length c0] 27 (0, 0))) := ⟨by (with_reducible repeat (first | refine blk_drewN ?_ _ | refine blk_drew ?_ | refine blk_alloc ?_ _)); refine blk_far ?_ NB330_336.out _; (with_reducible repeat (first | refine blk_drewN ?_ _ | refine blk_drew ?_ | refine blk_alloc ?_ _)); refine blk_far ?_ NB330_336.out _; (with_reducible repeat (first | refine blk_drewN ?_ _ | refine blk_drew ?_ | refine blk_alloc ?_ _)); refine blk_far ?_ NB330_336.out _; (with_reducible repeat (first | refine blk_drewN ?_ _ | refine blk_drew ?_ | refine blk_alloc ?_ _)); refine blk_far ?_ NB330_336.out _; (with_reducible repeat (first | refine blk_drewN ?_ _ | refine blk_drew ?_ | refine blk_alloc ?_ _)); refine blk_far ?_ NB330_336.out _; (with_reducible repeat (first | refine blk_drewN ?_ _ | refine blk_drew ?_ | refine blk_alloc ?_ _)); refine blk_far ?_ NB330_336.out _; (with_reducible repeat (first | refine blk_drewN ?_ _ | refine blk_drew ?_ | refine blk_alloc ?_ _)); exact BK330.out⟩
                            have n1_ : Aside0 (((((((w48.setCell ⟨gb336, 0, none⟩ (.int .i64 ((rd_T27 y322 x42_2).f0))).setCell ⟨gb336, 1, none⟩ (.int .i64 ((rd_T27 y322 x42_2).f1))).setCell ⟨gb336, 2, none⟩ (.int .i64 ((rd_T27 y322 x42_2).f2))).setCell ⟨gb336, 3, none⟩ (.int .i64 ((rd_T27 y322 x42_2).f3))).setCell ⟨gb336, 4, none⟩ (.int .i64 ((rd_T27 y322 x42_2).f4))).setCell ⟨gb336, 5, none⟩ (.slice A335_5 ((rd_T27 y322 x42_2).f5).length c335_5)).heap[gb336]? = some (.cells #[.int .i64 ((rd_T27 y322 x42_2).f0), .int .i64 ((rd_T27 y322 x42_2).f1), .int .i64 ((rd_T27 y322 x42_2).f2), .int .i64 ((rd_T27 y322 x42_2).f3), .int .i64 ((rd_T27 y322 x42_2).f4), .slice A335_5 ((rd_T27 y322 x42_2).f5).length c335_5] 27 (0, 0))) := ⟨by (with_reducible repeat (first | refine blk_drewN ?_ _ | refine blk_drew ?_ | refine blk_alloc ?_ _)); refine blk_put (cs := #[.int .i64 ((rd_T27 y322 x42_2).f0), .int .i64 ((rd_T27 y322 x42_2).f1), .int .i64 ((rd_T27 y322 x42_2).f2), .int .i64 ((rd_T27 y322 x42_2).f3), .int .i64 ((rd_T27 y322 x42_2).f4), .slice none 0 0]) ?_ 5 _ rfl; (with_reducible repeat (first | refine blk_drewN ?_ _ | refine blk_drew ?_ | refine blk_alloc ?_ _)); refine blk_put (cs := #[.int .i64 ((rd_T27 y322 x42_2).f0), .int .i64 ((rd_T27 y322 x42_2).f1), .int .i64 ((rd_T27 y322 x42_2).f2), .int .i64 ((rd_T27 y322 x42_2).f3), .int .i64 0, .slice none 0 0]) ?_ 4 _ rfl; (with_reducible repeat (first | refine blk_drewN ?_ _ | refine blk_drew ?_ | refine blk_alloc ?_ _)); refine blk_put (cs := #[.int .i64 ((rd_T27 y322 x42_2).f0), .int .i64 ((rd_T27 y322 x42_2).f1), .int .i64 ((rd_T27 y322 x42_2).f2), .int .i64 0, .int .i64 0, .slice none 0 0]) ?_ 3 _ rfl; (with_reducible repeat (first | refine blk_drewN ?_ _ | refine blk_drew ?_ | refine blk_alloc ?_ _)); refine blk_put (cs := #[.int .i64 ((rd_T27 y322 x42_2).f0), .int .i64 ((rd_T27 y322 x42_2).f1), .int .i64 0, .int .i64 0, .int .i64 0, .slice none 0 0]) ?_ 2 _ rfl; (with_reducible repeat (first | refine blk_drewN ?_ _ | refine blk_drew ?_ | refine blk_alloc ?_ _)); refine blk_put (cs := #[.int .i64 ((rd_T27 y322 x42_2).f0), .int .i64 0, .int .i64 0, .int .i64 0, .int .i64 0, .slice none 0 0]) ?_ 1 _ rfl; (with_reducible repeat (first | refine blk_drewN ?_ _ | refine blk_drew ?_ | refine blk_alloc ?_ _)); refine blk_put (cs := #[.int .i64 0, .int .i64 0, .int .i64 0, .int .i64 0, .int .i64 0, .slice none 0 0]) ?_ 0 _ rfl; (with_reducible repeat (first | refine blk_drewN ?_ _ | refine blk_drew ?_ | refine blk_alloc ?_ _)); exact BK336.out⟩
                            have n2_ : Aside0 (Below w.heap.size w ((((((w48.setCell ⟨gb336, 0, none⟩ (.int .i64 ((rd_T27 y322 x42_2).f0))).setCell ⟨gb336, 1, none⟩ (.int .i64 ((rd_T27 y322 x42_2).f1))).setCell ⟨gb336, 2, none⟩ (.int .i64 ((rd_T27 y322 x42_2).f2))).setCell ⟨gb336, 3, none⟩ (.int .i64 ((rd_T27 y322 x42_2).f3))).setCell ⟨gb336, 4, none⟩ (.int .i64 ((rd_T27 y322 x42_2).f4))).setCell ⟨gb336, 5, none⟩ (.slice A335_5 ((rd_T27 y322 x42_2).f5).length c335_5))) := ⟨by repeat (first | (with_reducible first | exact HB.out | apply below_alloc | apply pw_below_drewN | apply below_drew1 | refine below_set ?_ GE330.out | refine below_set ?_ GE336.out) | exact HB.out)⟩
                            (try clear BK330)
                            (try clear BK336)
                            (try clear HB)
                            generalize ((((((w48.setCell ⟨gb336, 0, none⟩ (.int .i64 ((rd_T27 y322 x42_2).f0))).setCell ⟨gb336, 1, none⟩ (.int .i64 ((rd_T27 y322 x42_2).f1))).setCell ⟨gb336, 2, none⟩ (.int .i64 ((rd_T27 y322 x42_2).f2))).setCell ⟨gb336, 3, none⟩ (.int .i64 ((rd_T27 y322 x42_2).f3))).setCell ⟨gb336, 4, none⟩ (.int .i64 ((rd_T27 y322 x42_2).f4))).setCell ⟨gb336, 5, none⟩ (.slice A335_5 ((rd_T27 y322 x42_2).f5).length c335_5)) = w51 at n0_ n1_ n2_ ⊢
                            have BK330 := n0_
                            have BK336 := n1_
                            have HB := n2_
                            clear n0_ n1_ n2_
                            have n0_ := Aside0.mk (blk_drew BK330.out)
                            have n1_ := Aside0.mk (blk_drew BK336.out)
                            have n2_ := Aside0.mk (below_drew1 HB.out)
                            clear BK330
                            clear BK336
                            clear HB
                            have BK330 := n0_
                            have BK336 := n1_
                            have HB := n2_
                            clear n0_ n1_ n2_
                            have p337 : 0 ≤ (x42_2 : Int) := of_decide_eq_true (by first | (with_reducible assumption) | assumption)
                            have q337 : x42_2 < (y326.length : Int) := of_decide_eq_true (by first | (with_reducible assumption) | assumption)
                            obtain ⟨ad337, A337_1, c337_1, A337_2, c337_2, e337, hx337_0, hx337_1, hx337_2, hl337_1, hi337_1, hl337_2, hi337_2⟩ := at_T46 HR329.out x42_2 p337 q337
                            have hw337_2 := hx337_2
                            have hw337_1 := hx337_1
                            have hw337_0 := hx337_0
                            cases e337
                            replace hx337_0 := (HB.out.cell (World.block_lt_of_cell? w _ hx337_0)).trans hx337_0
                            replace hx337_1 := (HB.out.cell (World.block_lt_of_cell? w _ hx337_1)).trans hx337_1
                            replace hx337_2 := (HB.out.cell (World.block_lt_of_cell? w _ hx337_2)).trans hx337_2
                            have HR337_1 := Aside0.mk hi337_1
                            have HC337_1 := Aside0.mk hl337_1
                            clear hi337_1 hl337_1
                            have HR337_2 := Aside0.mk hi337_2
                            have HC337_2 := Aside0.mk hl337_2
                            clear hi337_2 hl337_2
                            replace p337 := eq_true p337
                            replace q337 := eq_true q337
                            refine start_ (n := 7) (S := fun w' => w'.cell? ⟨gb336, 0, none⟩ = some (.int .i64 ((rd_T27 y322 x42_2).f0)) ∧ w'.cell? ⟨gb336, 1, none⟩ = some (.int .i64 ((rd_T27 y322 x42_2).f1)) ∧ w'.cell? ⟨gb336, 2, none⟩ = some (.int .i64 ((rd_T27 y322 x42_2).f2)) ∧ w'.cell? ⟨gb336, 3, none⟩ = some (.int .i64 ((rd_T27 y322 x42_2).f3)) ∧ w'.cell? ⟨gb336, 4, none⟩ = some (.int .i64 ((rd_T27 y322 x42_2).f4)) ∧ w'.cell? ⟨gb336, 5, none⟩ = some (.slice A335_5 ((rd_T27 y322 x42_2).f5).length c335_5) ∧ w'.cell? (ad337.add ((x42_2).toNat * 3)) = some (.int .u64 ((rd_T46 y326 x42_2).f0)) ∧ w'.cell? ⟨(ad337.add ((x42_2).toNat * 3)).block, (ad337.add ((x42_2).toNat * 3)).off + 1, none⟩ = some (.slice A337_1 ((rd_T46 y326 x42_2).f1).length c337_1) ∧ w'.cell? ⟨(ad337.add ((x42_2).toNat * 3)).block, (ad337.add ((x42_2).toNat * 3)).off + 2, none⟩ = some (.slice A337_2 ((rd_T46 y326 x42_2).f2).length c337_2)) (ds := []) #[false, false, false, false, false, false, false] (by kernel_rfl) rfl rfl ⟨(blk_cell BK336.out 0).trans rfl, (blk_cell BK336.out 1).trans rfl, (blk_cell BK336.out 2).trans rfl, (blk_cell BK336.out 3).trans rfl, (blk_cell BK336.out 4).trans rfl, (blk_cell BK336.out 5).trans rfl, ((HB.out.cell (World.block_lt_of_cell? w _ hw337_0)).trans hw337_0), ((HB.out.cell (World.block_lt_of_cell? w _ hw337_1)).trans hw337_1), ((HB.out.cell (World.block_lt_of_cell? w _ hw337_2)).trans hw337_2)⟩ (fun hHeld => ?_)
                            generalize w51.drew = w52 at BK330 BK336 HB HR337_1 HR337_2 hx337_0 hx337_1 hx337_2 hHeld ⊢
                            refine pure_ (i := 1) (N := some 48) (v := ?_) (a' := ?_) #[false, true, false, false, false, false, false] rfl rfl (by kernel_rfl) (fun _ _ _ h => h) (Or.inl ⟨by rfl, ?_⟩) ?_ ?_
                            rotate_left
                            · intro w'
                              go_simp
                              with_reducible rfl
                            rotate_left
                            · simp only [Act.put, List.setIfInBounds_toArray, List.set_cons_zero, List.set_cons_succ, i64_w, i32_w]
                              rfl
                            refine pure_ (i := 2) (N := some 49) (v := ?_) (a' := ?_) #[false, true, true, false, false, false, false] rfl rfl (by kernel_rfl) (fun _ _ _ h => h) (Or.inl ⟨by rfl, ?_⟩) ?_ ?_
                            rotate_left
                            · intro w'
                              go_simp
                              with_reducible rfl
                            rotate_left
                            · simp only [Act.put, List.setIfInBounds_toArray, List.set_cons_zero, List.set_cons_succ, i64_w, i32_w]
                              rfl
                            refine pure_ (i := 3) (N := some 50) (v := ?_) (a' := ?_) #[false, true, true, true, false, false, false] rfl rfl (by kernel_rfl) (fun _ _ _ h => h) (Or.inl ⟨by rfl, ?_⟩) ?_ ?_
                            rotate_left
                            · intro w'
                              go_simp
                              with_reducible rfl
                            rotate_left
                            · simp only [Act.put, List.setIfInBounds_toArray, List.set_cons_zero, List.set_cons_succ, i64_w, i32_w]
                              rfl
                            refine take_ (i := 0) (N := some 47) (v := ?_) (a' := ?_) #[true, true, true, true, false, false, false] rfl rfl (by kernel_rfl) (fun _ _ _ h => h) (Or.inl ⟨by rfl, ?_⟩) hHeld ?_ ?_
                            rotate_left
                            · rintro w' ⟨s0, s1, s2, s3, s4, s5, s6, s7, s8⟩
                              go_simp
                              with_reducible rfl
                            rotate_left
                            · simp only [Act.put, List.setIfInBounds_toArray, List.set_cons_zero, List.set_cons_succ, i64_w, i32_w]
                              rfl
                            refine take_ (i := 4) (N := some 51) (v := ?_) (a' := ?_) #[true, true, true, true, true, false, false] rfl rfl (by kernel_rfl) (fun _ _ _ h => h) (Or.inl ⟨by rfl, ?_⟩) hHeld ?_ ?_
                            rotate_left
                            · rintro w' ⟨s0, s1, s2, s3, s4, s5, s6, s7, s8⟩
                              go_simp
                              with_reducible rfl
                            rotate_left
                            · simp only [Act.put, List.setIfInBounds_toArray, List.set_cons_zero, List.set_cons_succ, i64_w, i32_w]
                              rfl
                            refine one_ (i := 5) (N := some 52) #[true, true, true, true, true, true, false] rfl rfl (by kernel_rfl) (by decide) (fun K hK => ?_)
                            refine goes_ Try.func33 (by kernel_rfl) rfl #[.agg #[.int .i64 ((rd_T27 y322 x42_2).f0), .int .i64 ((rd_T27 y322 x42_2).f1), .int .i64 ((rd_T27 y322 x42_2).f2), .int .i64 ((rd_T27 y322 x42_2).f3), .int .i64 ((rd_T27 y322 x42_2).f4), .slice A335_5 ((rd_T27 y322 x42_2).f5).length c335_5], .agg #[.int .u64 ((rd_T46 y326 x42_2).f0), .slice A337_1 ((rd_T46 y326 x42_2).f1).length c337_1, .slice A337_2 ((rd_T46 y326 x42_2).f2).length c337_2]] (by rfl) rfl rfl (by (try simp only [List.map_toArray, List.map_cons, List.map_nil]); first | done | rfl | (simp only [List.length_drop, List.length_take]; rfl)) ?_
                            with_reducible refine (value_Fits.calls k2 ((rd_T27 y322 x42_2).f0) ((rd_T27 y322 x42_2).f1) ((rd_T27 y322 x42_2).f2) ((rd_T27 y322 x42_2).f3) ((rd_T27 y322 x42_2).f4) _ _ ((rd_T27 y322 x42_2).f5) ((rd_T46 y326 x42_2).f0) _ _ ((rd_T46 y326 x42_2).f1) _ _ ((rd_T46 y326 x42_2).f2) t338 _ ?side1 ?side2 ?side3 ?side4 ?side5 ?side6 A36.out).mono ?_
                            (case side1 => repeat (first | exact (Kd.C_below HR335_5.out HB.out) | (with_reducible refine Kd.C_alloc ?_ _) | (with_reducible refine Kd.C_drewN ?_ _) | (with_reducible refine Kd.C_drew ?_)))
                            (case side2 => exact HC335_5.out)
                            (case side3 => repeat (first | exact (Kd.C_below HR337_1.out HB.out) | (with_reducible refine Kd.C_alloc ?_ _) | (with_reducible refine Kd.C_drewN ?_ _) | (with_reducible refine Kd.C_drew ?_)))
                            (case side4 => exact HC337_1.out)
                            (case side5 => repeat (first | exact (Kd.C_below HR337_2.out HB.out) | (with_reducible refine Kd.C_alloc ?_ _) | (with_reducible refine Kd.C_drewN ?_ _) | (with_reducible refine Kd.C_drew ?_)))
                            (case side6 => exact HC337_2.out)
                            rintro e w53 ⟨rfl, hb⟩
                            refine ⟨_, rfl, ?_⟩
                            have n0_ := Aside0.mk (blk_below (g := gb330) (o := .cells #[.int .i64 3, .int .i64 0, .int .i64 0, .int .i64 0, .int .i64 0, .slice (some ad335) y322.length c0] 27 (0, 0)) (by (with_reducible repeat (first | refine blk_drewN ?_ _ | refine blk_drew ?_ | refine blk_alloc ?_ _)); exact BK330.out) hb)
                            have n1_ := Aside0.mk (blk_below (g := gb336) (o := .cells #[.int .i64 ((rd_T27 y322 x42_2).f0), .int .i64 ((rd_T27 y322 x42_2).f1), .int .i64 ((rd_T27 y322 x42_2).f2), .int .i64 ((rd_T27 y322 x42_2).f3), .int .i64 ((rd_T27 y322 x42_2).f4), .slice A335_5 ((rd_T27 y322 x42_2).f5).length c335_5] 27 (0, 0)) (by (with_reducible repeat (first | refine blk_drewN ?_ _ | refine blk_drew ?_ | refine blk_alloc ?_ _)); exact BK336.out) hb)
                            have n2_ := Aside0.mk (below_step (by repeat (first | (with_reducible first | exact HB.out | apply below_alloc | apply pw_below_drewN | apply below_drew1 | refine below_set ?_ GE330.out | refine below_set ?_ GE336.out) | exact HB.out)) hb)
                            clear BK330
                            clear BK336
                            clear HB
                            have BK330 := n0_
                            have BK336 := n1_
                            have HB := n2_
                            clear n0_ n1_ n2_
                            (try clear hb)
                            (try clear hb2)
                            (try clear hk)
                            (try clear hi)
                            refine hK.out _ _ ⟨(blk_cell BK336.out 0).trans rfl, (blk_cell BK336.out 1).trans rfl, (blk_cell BK336.out 2).trans rfl, (blk_cell BK336.out 3).trans rfl, (blk_cell BK336.out 4).trans rfl, (blk_cell BK336.out 5).trans rfl, ((HB.out.cell (World.block_lt_of_cell? w _ hw337_0)).trans hw337_0), ((HB.out.cell (World.block_lt_of_cell? w _ hw337_1)).trans hw337_1), ((HB.out.cell (World.block_lt_of_cell? w _ hw337_2)).trans hw337_2)⟩ (fun hHeld => ?_)
                            clear hK K
                            refine norm_ (a' := ?_) ?_ ?_
                            rotate_left
                            · show Act.put _ (some 52) _ = _
                              simp only [Act.put, List.setIfInBounds_toArray, List.set_cons_zero, List.set_cons_succ, i64_w, i32_w]
                              rfl
                            refine pure_ (i := 6) (N := some 11) (v := ?_) (a' := ?_) #[true, true, true, true, true, true, true] rfl rfl (by kernel_rfl) (fun _ _ _ h => h) (Or.inl ⟨by rfl, ?_⟩) ?_ ?_
                            rotate_left
                            · intro w'
                              go_simp
                              with_reducible rfl
                            rotate_left
                            · simp only [Act.put, List.setIfInBounds_toArray, List.set_cons_zero, List.set_cons_succ, i64_w, i32_w]
                              rfl
                            refine done_ (by kernel_rfl) ?_
                            try go_wp2
                            have n0_ := Aside0.mk (blk_drew BK330.out)
                            have n1_ := Aside0.mk (blk_drew BK336.out)
                            have n2_ := Aside0.mk (below_drew1 HB.out)
                            clear BK330
                            clear BK336
                            clear HB
                            have BK330 := n0_
                            have BK336 := n1_
                            have HB := n2_
                            clear n0_ n1_ n2_
                            have p341 : 0 ≤ (x42_2 : Int) := of_decide_eq_true (by first | (with_reducible assumption) | assumption)
                            have q341 : x42_2 < (y326.length : Int) := of_decide_eq_true (by first | (with_reducible assumption) | assumption)
                            obtain ⟨ad341, A341_1, c341_1, A341_2, c341_2, e341, hx341_0, hx341_1, hx341_2, hl341_1, hi341_1, hl341_2, hi341_2⟩ := at_T46 HR329.out x42_2 p341 q341
                            have hw341_2 := hx341_2
                            have hw341_1 := hx341_1
                            have hw341_0 := hx341_0
                            obtain rfl : ad337 = ad341 := (by injection e341)
                            replace hx341_0 := (HB.out.cell (World.block_lt_of_cell? w _ hx341_0)).trans hx341_0
                            replace hx341_1 := (HB.out.cell (World.block_lt_of_cell? w _ hx341_1)).trans hx341_1
                            replace hx341_2 := (HB.out.cell (World.block_lt_of_cell? w _ hx341_2)).trans hx341_2
                            have HR341_1 := Aside0.mk hi341_1
                            have HC341_1 := Aside0.mk hl341_1
                            clear hi341_1 hl341_1
                            have HR341_2 := Aside0.mk hi341_2
                            have HC341_2 := Aside0.mk hl341_2
                            clear hi341_2 hl341_2
                            replace p341 := eq_true p341
                            replace q341 := eq_true q341
                            refine start_ (n := 9) (S := fun w' => w'.cell? ⟨gb336, 0, none⟩ = some (.int .i64 ((rd_T27 y322 x42_2).f0)) ∧ w'.cell? ⟨gb336, 1, none⟩ = some (.int .i64 ((rd_T27 y322 x42_2).f1)) ∧ w'.cell? ⟨gb336, 2, none⟩ = some (.int .i64 ((rd_T27 y322 x42_2).f2)) ∧ w'.cell? ⟨gb336, 3, none⟩ = some (.int .i64 ((rd_T27 y322 x42_2).f3)) ∧ w'.cell? ⟨gb336, 4, none⟩ = some (.int .i64 ((rd_T27 y322 x42_2).f4)) ∧ w'.cell? ⟨gb336, 5, none⟩ = some (.slice A335_5 ((rd_T27 y322 x42_2).f5).length c335_5) ∧ w'.cell? (ad337.add ((x42_2).toNat * 3)) = some (.int .u64 ((rd_T46 y326 x42_2).f0)) ∧ w'.cell? ⟨(ad337.add ((x42_2).toNat * 3)).block, (ad337.add ((x42_2).toNat * 3)).off + 1, none⟩ = some (.slice A341_1 ((rd_T46 y326 x42_2).f1).length c341_1) ∧ w'.cell? ⟨(ad337.add ((x42_2).toNat * 3)).block, (ad337.add ((x42_2).toNat * 3)).off + 2, none⟩ = some (.slice A341_2 ((rd_T46 y326 x42_2).f2).length c341_2)) (ds := []) #[false, false, false, false, false, false, false, false, false] (by kernel_rfl) rfl rfl ⟨(blk_cell BK336.out 0).trans rfl, (blk_cell BK336.out 1).trans rfl, (blk_cell BK336.out 2).trans rfl, (blk_cell BK336.out 3).trans rfl, (blk_cell BK336.out 4).trans rfl, (blk_cell BK336.out 5).trans rfl, ((HB.out.cell (World.block_lt_of_cell? w _ hw341_0)).trans hw341_0), ((HB.out.cell (World.block_lt_of_cell? w _ hw341_1)).trans hw341_1), ((HB.out.cell (World.block_lt_of_cell? w _ hw341_2)).trans hw341_2)⟩ (fun hHeld => ?_); refine with_tabW passepartoutlaw05_ValueRows.tab13 passepartoutlaw05_ValueRows.bits13 (fun HT_ HW_ => ?_)
                            generalize w53.drew = w54 at BK330 BK336 HB HR341_1 HR341_2 hx341_0 hx341_1 hx341_2 hHeld ⊢
                            refine pure_ (i := 0) (N := some 56) (v := ?_) (a' := ?_) #[true, false, false, false, false, false, false, false, false] rfl rfl (any_of HT_.out (by kernel_rfl)) (fun _ _ _ h => h) (Or.inl ⟨by rfl, ?_⟩) ?_ ?_
                            rotate_left
                            · intro w'
                              go_simp
                              with_reducible rfl
                            rotate_left
                            · simp only [Act.put, List.setIfInBounds_toArray, List.set_cons_zero, List.set_cons_succ, i64_w, i32_w]
                              rfl
                            refine pure_ (i := 2) (N := some 58) (v := ?_) (a' := ?_) #[true, false, true, false, false, false, false, false, false] rfl rfl (any_of HT_.out (by kernel_rfl)) (fun _ _ _ h => h) (Or.inl ⟨by rfl, ?_⟩) ?_ ?_
                            rotate_left
                            · intro w'
                              go_simp
                              with_reducible rfl
                            rotate_left
                            · simp only [Act.put, List.setIfInBounds_toArray, List.set_cons_zero, List.set_cons_succ, i64_w, i32_w]
                              rfl
                            refine pure_ (i := 3) (N := some 59) (v := ?_) (a' := ?_) #[true, false, true, true, false, false, false, false, false] rfl rfl (any_of HT_.out (by kernel_rfl)) (fun _ _ _ h => h) (Or.inl ⟨by rfl, ?_⟩) ?_ ?_
                            rotate_left
                            · intro w'
                              go_simp
                              with_reducible rfl
                            rotate_left
                            · simp only [Act.put, List.setIfInBounds_toArray, List.set_cons_zero, List.set_cons_succ, i64_w, i32_w]
                              rfl
                            refine pure_ (i := 4) (N := some 60) (v := ?_) (a' := ?_) #[true, false, true, true, true, false, false, false, false] rfl rfl (any_of HT_.out (by kernel_rfl)) (fun _ _ _ h => h) (Or.inl ⟨by rfl, ?_⟩) ?_ ?_
                            rotate_left
                            · intro w'
                              go_simp
                              with_reducible rfl
                            rotate_left
                            · simp only [Act.put, List.setIfInBounds_toArray, List.set_cons_zero, List.set_cons_succ, i64_w, i32_w]
                              rfl
                            refine take_ (i := 1) (N := some 57) (v := ?_) (a' := ?_) #[true, true, true, true, true, false, false, false, false] rfl rfl (take_ofW HT_.out HW_.out (by kernel_rfl)) (fun _ _ _ h => h) (Or.inl ⟨by rfl, ?_⟩) hHeld ?_ ?_
                            rotate_left
                            · rintro w' ⟨s0, s1, s2, s3, s4, s5, s6, s7, s8⟩
                              go_simp
                              with_reducible rfl
                            rotate_left
                            · simp only [Act.put, List.setIfInBounds_toArray, List.set_cons_zero, List.set_cons_succ, i64_w, i32_w]
                              rfl
                            refine take_ (i := 5) (N := some 61) (v := ?_) (a' := ?_) #[true, true, true, true, true, true, false, false, false] rfl rfl (take_ofW HT_.out HW_.out (by kernel_rfl)) (fun _ _ _ h => h) (Or.inl ⟨by rfl, ?_⟩) hHeld ?_ ?_
                            rotate_left
                            · rintro w' ⟨s0, s1, s2, s3, s4, s5, s6, s7, s8⟩
                              go_simp
                              with_reducible rfl
                            rotate_left
                            · simp only [Act.put, List.setIfInBounds_toArray, List.set_cons_zero, List.set_cons_succ, i64_w, i32_w]
                              rfl
                            refine one_ (i := 6) (N := some 62) #[true, true, true, true, true, true, true, false, false] rfl rfl (one_of HT_.out (by kernel_rfl)) (by decide) (fun K hK => ?_)
                            refine goes_ Try.func32 (by kernel_rfl) rfl #[.agg #[.int .i64 ((rd_T27 y322 x42_2).f0), .int .i64 ((rd_T27 y322 x42_2).f1), .int .i64 ((rd_T27 y322 x42_2).f2), .int .i64 ((rd_T27 y322 x42_2).f3), .int .i64 ((rd_T27 y322 x42_2).f4), .slice A335_5 ((rd_T27 y322 x42_2).f5).length c335_5], .agg #[.int .u64 ((rd_T46 y326 x42_2).f0), .slice A341_1 ((rd_T46 y326 x42_2).f1).length c341_1, .slice A341_2 ((rd_T46 y326 x42_2).f2).length c341_2]] (by rfl) rfl rfl (by (try simp only [List.map_toArray, List.map_cons, List.map_nil]); first | done | rfl | (simp only [List.length_drop, List.length_take]; rfl)) ?_
                            with_reducible refine (value_Size.calls k2 ((rd_T27 y322 x42_2).f0) ((rd_T27 y322 x42_2).f1) ((rd_T27 y322 x42_2).f2) ((rd_T27 y322 x42_2).f3) ((rd_T27 y322 x42_2).f4) _ _ ((rd_T27 y322 x42_2).f5) ((rd_T46 y326 x42_2).f0) _ _ ((rd_T46 y326 x42_2).f1) _ _ ((rd_T46 y326 x42_2).f2) t342 _ ?side1 ?side2 ?side3 ?side4 ?side5 ?side6 A47.out).mono ?_
                            (case side1 => repeat (first | exact (Kd.C_below HR335_5.out HB.out) | (with_reducible refine Kd.C_alloc ?_ _) | (with_reducible refine Kd.C_drewN ?_ _) | (with_reducible refine Kd.C_drew ?_)))
                            (case side2 => exact HC335_5.out)
                            (case side3 => repeat (first | exact (Kd.C_below HR341_1.out HB.out) | (with_reducible refine Kd.C_alloc ?_ _) | (with_reducible refine Kd.C_drewN ?_ _) | (with_reducible refine Kd.C_drew ?_)))
                            (case side4 => exact HC341_1.out)
                            (case side5 => repeat (first | exact (Kd.C_below HR341_2.out HB.out) | (with_reducible refine Kd.C_alloc ?_ _) | (with_reducible refine Kd.C_drewN ?_ _) | (with_reducible refine Kd.C_drew ?_)))
                            (case side6 => exact HC341_2.out)
                            rintro e w55 ⟨rfl, hb⟩
                            refine ⟨_, rfl, ?_⟩
                            have n0_ := Aside0.mk (blk_below (g := gb330) (o := .cells #[.int .i64 3, .int .i64 0, .int .i64 0, .int .i64 0, .int .i64 0, .slice (some ad335) y322.length c0] 27 (0, 0)) (by (with_reducible repeat (first | refine blk_drewN ?_ _ | refine blk_drew ?_ | refine blk_alloc ?_ _)); exact BK330.out) hb)
                            have n1_ := Aside0.mk (blk_below (g := gb336) (o := .cells #[.int .i64 ((rd_T27 y322 x42_2).f0), .int .i64 ((rd_T27 y322 x42_2).f1), .int .i64 ((rd_T27 y322 x42_2).f2), .int .i64 ((rd_T27 y322 x42_2).f3), .int .i64 ((rd_T27 y322 x42_2).f4), .slice A335_5 ((rd_T27 y322 x42_2).f5).length c335_5] 27 (0, 0)) (by (with_reducible repeat (first | refine blk_drewN ?_ _ | refine blk_drew ?_ | refine blk_alloc ?_ _)); exact BK336.out) hb)
                            have n2_ := Aside0.mk (below_step (by repeat (first | (with_reducible first | exact HB.out | apply below_alloc | apply pw_below_drewN | apply below_drew1 | refine below_set ?_ GE330.out | refine below_set ?_ GE336.out) | exact HB.out)) hb)
                            clear BK330
                            clear BK336
                            clear HB
                            have BK330 := n0_
                            have BK336 := n1_
                            have HB := n2_
                            clear n0_ n1_ n2_
                            (try clear hb)
                            (try clear hb2)
                            (try clear hk)
                            (try clear hi)
                            refine hK.out _ _ ⟨(blk_cell BK336.out 0).trans rfl, (blk_cell BK336.out 1).trans rfl, (blk_cell BK336.out 2).trans rfl, (blk_cell BK336.out 3).trans rfl, (blk_cell BK336.out 4).trans rfl, (blk_cell BK336.out 5).trans rfl, ((HB.out.cell (World.block_lt_of_cell? w _ hw341_0)).trans hw341_0), ((HB.out.cell (World.block_lt_of_cell? w _ hw341_1)).trans hw341_1), ((HB.out.cell (World.block_lt_of_cell? w _ hw341_2)).trans hw341_2)⟩ (fun hHeld => ?_)
                            clear hK K
                            refine norm_ (a' := ?_) ?_ ?_
                            rotate_left
                            · show Act.put _ (some 62) _ = _
                              simp only [Act.put, List.setIfInBounds_toArray, List.set_cons_zero, List.set_cons_succ, i64_w, i32_w]
                              rfl
                            refine pure_ (i := 7) (N := some 63) (v := ?_) (a' := ?_) #[true, true, true, true, true, true, true, true, false] rfl rfl (any_of HT_.out (by kernel_rfl)) (fun _ _ _ h => h) (Or.inl ⟨by rfl, ?_⟩) ?_ ?_
                            rotate_left
                            · intro w'
                              go_simp
                              with_reducible rfl
                            rotate_left
                            · simp only [Act.put, List.setIfInBounds_toArray, List.set_cons_zero, List.set_cons_succ, i64_w, i32_w]
                              rfl
                            refine pure_ (i := 8) (N := some 7) (v := ?_) (a' := ?_) #[true, true, true, true, true, true, true, true, true] rfl rfl (any_of HT_.out (by kernel_rfl)) (fun _ _ _ h => h) (Or.inl ⟨by rfl, ?_⟩) ?_ ?_
                            rotate_left
                            · intro w'
                              go_simp
                              with_reducible rfl
                            rotate_left
                            · simp only [Act.put, List.setIfInBounds_toArray, List.set_cons_zero, List.set_cons_succ, i64_w, i32_w]
                              rfl
                            refine done_ (done_of HT_.out (by kernel_rfl)) ?_
                            try go_wp2
                            go_roundg k2
                            case measure => have := HJ8.out; have := HK2.out; omega
                            case rel => exact ⟨(wrap64 (x7_2 + t342)), (x8_2), (wrap64 (x42_2 + 1)), (by first | rfl | (simp; done) | (simp [*]; done)), (by first | rfl | (simp; done) | (simp [*]; done)), (by first | rfl | (simp; done) | (simp [*]; done)), H', ⟨by have := HJ8.out; have := HK2.out; omega⟩, ⟨by (with_reducible repeat (first | refine blk_drewN ?_ _ | refine blk_drew ?_ | refine blk_alloc ?_ _)); exact BK330.out⟩, ⟨by repeat (first | (with_reducible first | exact HB.out | apply below_alloc | apply pw_below_drewN | apply below_drew1 | refine below_set ?_ GE330.out | refine below_set ?_ GE336.out) | exact HB.out)⟩⟩
                        · rw [if_neg c35] at H
                          exact absurd H (by simp)
                      · rw [if_neg c34] at H
                        exact absurd H (by simp)
                    · rw [if_neg c33] at H
                      exact absurd H (by simp)
                  · rw [if_neg c32] at H
                    have c32b0 : decide (x42_2 < (y322.length : Int)) = false := decide_eq_false c32
                    clear c32
                    replace H := Option.bind_eq_some_iff.mp H
                    obtain ⟨⟨t343, t344, t347⟩, A560, H⟩ := H
                    replace H : ((value_Fits.f k2 3 0 0 0 0 y322 t343 t344 t347).bind fun t351 => (if t351 = x8_2 then (if x8_2 = 0 then ((value_Size.f k2 3 0 0 0 0 y322 t343 t344 t347).bind fun t352 => (passepartoutlaw05_ValueRows.j2 k2 y326 ji4 (t352 != x7_2) 3 0 0 0 0 y322)) else (passepartoutlaw05_ValueRows.j2 k2 y326 ji4 false 3 0 0 0 0 y322)) else (passepartoutlaw05_ValueRows.j2 k2 y326 ji4 true 3 0 0 0 0 y322))) = some r := H
                    have A56 := Aside0.mk A560
                    clear A560
                    have HC57 := Aside0.mk H
                    clear H
                    go_upto_region 16 with (first | ((with_reducible refine gate_callee (f := 36) rfl ?_); refine goesL_ (some 66) rfl rfl Try.func36 (by kernel_rfl) rfl #[.slice A1 y326.length c1] rfl (by (try simp only [List.map_toArray, List.map_cons, List.map_nil]); first | done | rfl | (simp only [List.length_drop, List.length_take]; rfl)) ?_; (with_reducible refine (value_List.calls (fun k_ => k_ < w.heap.size) _ _ y326 t343 t344 t347 _ ?side1 A56.out).mono ?_); (case side1 => exact Kd.V_mk HC329.out (Kd.F_below (Kd.C_F k46_heap HR329.out) (by repeat (first | (with_reducible first | exact HB.out | apply below_alloc | apply pw_below_drewN | apply below_drew1 | refine below_set ?_ GE330.out) | exact HB.out)))); rintro e w58 ⟨v345, v348, rfl, ho0, ho1, hb⟩; refine ⟨_, rfl, ?_⟩; have n0_ := Aside0.mk (Kd.R_lower (Kd.R_mono (ok' := fun k_ => True) ho0 (fun _ hk_ => trivial)) (below_size (by repeat (first | (with_reducible first | exact HB.out | apply below_alloc | apply pw_below_drewN | apply below_drew1 | refine below_set ?_ GE330.out) | exact HB.out)))); have n1_ := Aside0.mk (Kd.N_lower (Kd.N_mono (ok' := fun k_ => some k_ ≠ (v345 : Value).ownBlock ∧ k_ ≠ gb330) ho1 (fun k_ hk_ => ⟨hk_.2, Or.elim hk_.1 (fun hs_ => fun e_ => Nat.not_le.2 hs_ (by rw [e_]; exact GW330.out)) (fun hn_ => (Kd.freshB (g := gb330) (o := .cells #[.int .i64 3, .int .i64 0, .int .i64 0, .int .i64 0, .int .i64 0, .slice A0 y322.length c0] 27 (0, 0)) (by (with_reducible repeat (first | refine blk_drewN ?_ _ | refine blk_drew ?_ | refine blk_alloc ?_ _)); exact BK330.out) k_ hn_))⟩)) (below_size (by repeat (first | (with_reducible first | exact HB.out | apply below_alloc | apply pw_below_drewN | apply below_drew1 | refine below_set ?_ GE330.out) | exact HB.out)))); have n2_ := Aside0.mk (blk_below (g := gb330) (o := .cells #[.int .i64 3, .int .i64 0, .int .i64 0, .int .i64 0, .int .i64 0, .slice A0 y322.length c0] 27 (0, 0)) (by (with_reducible repeat (first | refine blk_drewN ?_ _ | refine blk_drew ?_ | refine blk_alloc ?_ _)); exact BK330.out) hb); have n3_ := Aside0.mk (below_step (by repeat (first | (with_reducible first | exact HB.out | apply below_alloc | apply pw_below_drewN | apply below_drew1 | refine below_set ?_ GE330.out) | exact HB.out)) hb); clear BK330; clear HB; have HO346 := n0_; have HO349 := n1_; have BK330 := n2_; have HB := n3_; clear n0_ n1_ n2_ n3_; (try clear hb); (try clear hb2); (try clear hk); (try clear hi); (try clear ho0); (try clear ho1)) | ((with_reducible refine gate_dst (N := 12) rfl ?_); refine box_event ?hg (N := 12) ?hd (cs := #[.int .u64 0, .slice none 0 0, .slice none 0 0]) (t := 46) ?hr ?_; (case hd => rfl); (case hg => rfl); (case hr => first | (go_simp; done) | (go_simp; rfl)); intro gb350 hg w59 hbox hb; have n0_ := Aside0.mk (Kd.R_below (by (with_reducible repeat (first | apply Kd.R_alloc | apply Kd.R_drewN | apply Kd.R_drew)); exact HO346.out) hb); have n1_ := Aside0.mk (Kd.N_below (Kd.N_elderB (by (with_reducible repeat (first | apply Kd.N_alloc | apply Kd.N_drewN | apply Kd.N_drew)); exact HO349.out) gb350 (Nat.le_of_eq hg.symm)) hb); have n2_ := Aside0.mk (blk_below (g := gb330) (o := .cells #[.int .i64 3, .int .i64 0, .int .i64 0, .int .i64 0, .int .i64 0, .slice A0 y322.length c0] 27 (0, 0)) (by (with_reducible repeat (first | refine blk_drewN ?_ _ | refine blk_drew ?_ | refine blk_alloc ?_ _)); exact BK330.out) hb); have n3_ := Aside0.mk (below_step (by repeat (first | (with_reducible first | exact HB.out | apply below_alloc | apply pw_below_drewN | apply below_drew1 | refine below_set ?_ GE330.out) | exact HB.out)) hb); have n4_ := Aside0.mk (hbox); have n5_ := Aside0.mk ((by rw [hg]; exact (below_size (by repeat (first | (with_reducible first | exact HB.out | apply below_alloc | apply pw_below_drewN | apply below_drew1 | refine below_set ?_ GE330.out) | exact HB.out))) : w.heap.size ≤ gb350)); have n6_ := Aside0.mk ((by rw [hg]; exact (below_size (by repeat (first | (with_reducible first | exact HB.out | apply below_alloc | apply pw_below_drewN | apply below_drew1 | refine below_set ?_ GE330.out) | exact HB.out))) : w.heap.size ≤ gb350)); have n7_ := Aside0.mk ((by rw [hg]; exact Nat.ne_of_lt (blk_lt (g := gb330) (o := .cells #[.int .i64 3, .int .i64 0, .int .i64 0, .int .i64 0, .int .i64 0, .slice A0 y322.length c0] 27 (0, 0)) (by (with_reducible repeat (first | refine blk_drewN ?_ _ | refine blk_drew ?_ | refine blk_alloc ?_ _)); exact BK330.out)) : gb330 ≠ gb350)); have n8_ := Aside0.mk ((by rw [hg]; exact Nat.ne_of_gt (blk_lt (g := gb330) (o := .cells #[.int .i64 3, .int .i64 0, .int .i64 0, .int .i64 0, .int .i64 0, .slice A0 y322.length c0] 27 (0, 0)) (by (with_reducible repeat (first | refine blk_drewN ?_ _ | refine blk_drew ?_ | refine blk_alloc ?_ _)); exact BK330.out)) : gb350 ≠ gb330)); clear HO346; clear HO349; clear BK330; clear HB; have HO346 := n0_; have HO349 := n1_; have BK330 := n2_; have HB := n3_; have BK350 := n4_; have GW350 := n5_; have GE350 := n6_; have NB330_350 := n7_; have NB350_330 := n8_; clear n0_ n1_ n2_ n3_ n4_ n5_ n6_ n7_ n8_; clear hb hbox hg; have hnb60 := NB350_330.out; have hnc60 := NB330_350.out; have hcz61_0 : w59.cell? ⟨gb350, 0, none⟩ = some (.int .u64 0) := (blk_cell BK350.out 0).trans rfl; have hcz61_1 : w59.cell? ⟨gb350, 1, none⟩ = some (.slice none 0 0) := (blk_cell BK350.out 1).trans rfl; have hcz61_2 : w59.cell? ⟨gb350, 2, none⟩ = some (.slice none 0 0) := (blk_cell BK350.out 2).trans rfl; have hfz61_0 := blk_frozen BK350.out 0; have hfz61_1 := blk_frozen BK350.out 1; have hfz61_2 := blk_frozen BK350.out 2; obtain ⟨Ao62, co62, eo62⟩ := Kd.R_slice HO346.out; subst eo62; obtain ⟨Ao63, co63, eo63⟩ := Kd.N_slice HO349.out; subst eo63))
                    (try simp only [Act.put, List.setIfInBounds_toArray, List.set_cons_zero, List.set_cons_succ])
                    go_cut [82] (fun v82 wc => ∃ (kq : Nat) (x82_56 : Bool), v82 = .bool x82_56 ∧ Aside0 (passepartoutlaw05_ValueRows.j2 kq y326 ji4 x82_56 3 0 0 0 0 y322 = some r) ∧ Aside0 (kq ≤ k2) ∧ Aside0 (Kd.R (Kd.int .u8) 5 wc w.heap.size (fun _ => True) (.slice Ao62 t344.length co62) t344) ∧ Aside0 (Kd.N k46 46 wc w.heap.size (fun k_ => some k_ ≠ ((.slice Ao62 t344.length co62) : Value).ownBlock ∧ k_ ≠ gb330 ∧ k_ ≠ gb350) (.slice Ao63 t347.length co63) t347) ∧ Aside0 (wc.heap[gb330]? = some (.cells #[.int .i64 3, .int .i64 0, .int .i64 0, .int .i64 0, .int .i64 0, (.slice A0 y322.length c0)] 27 (0, 0))) ∧ Aside0 (wc.heap[gb350]? = some (.cells #[.int .u64 t343, (.slice Ao62 t344.length co62), (.slice Ao63 t347.length co63)] 46 (0, 0))) ∧ Aside0 (Below w.heap.size w wc))
                    case first =>
                      have H := HC57.out
                      clear HC57
                      replace H := Option.bind_eq_some_iff.mp H
                      obtain ⟨t351, A640, H⟩ := H
                      replace H : (if t351 = x8_2 then (if x8_2 = 0 then ((value_Size.f k2 3 0 0 0 0 y322 t343 t344 t347).bind fun t352 => (passepartoutlaw05_ValueRows.j2 k2 y326 ji4 (t352 != x7_2) 3 0 0 0 0 y322)) else (passepartoutlaw05_ValueRows.j2 k2 y326 ji4 false 3 0 0 0 0 y322)) else (passepartoutlaw05_ValueRows.j2 k2 y326 ji4 true 3 0 0 0 0 y322)) = some r := H
                      have A64 := Aside0.mk A640
                      clear A640
                      by_cases c65 : t351 = x8_2
                      · rw [if_pos c65] at H
                        have c65b0 : (t351 == x8_2) = true := beq_iff_eq.mpr c65
                        have c65b1 : (t351 != x8_2) = false := bne_eq_false_iff_eq.mpr c65
                        clear c65
                        (first | rw [c65b0] | (simp only [i64_w, i32_w]; rw [c65b0]) | skip)
                        by_cases c66 : x8_2 = 0
                        · rw [if_pos c66] at H
                          have c66b0 : (x8_2 == 0) = true := beq_iff_eq.mpr c66
                          have c66b1 : (x8_2 != 0) = false := bne_eq_false_iff_eq.mpr c66
                          clear c66
                          replace H := Option.bind_eq_some_iff.mp H
                          obtain ⟨t352, A670, H⟩ := H
                          replace H : (passepartoutlaw05_ValueRows.j2 k2 y326 ji4 (t352 != x7_2) 3 0 0 0 0 y322) = some r := H
                          have A67 := Aside0.mk A670
                          clear A670
                          have H' := Aside0.mk H
                          clear H
                          have hnb68 := NB330_350.out
                          have hnc68 := NB350_330.out
                          have hcz69_0 : w59.cell? ⟨gb330, 0, none⟩ = some (.int .i64 3) := (blk_cell BK330.out 0).trans rfl
                          have hcz69_1 : w59.cell? ⟨gb330, 1, none⟩ = some (.int .i64 0) := (blk_cell BK330.out 1).trans rfl
                          have hcz69_2 : w59.cell? ⟨gb330, 2, none⟩ = some (.int .i64 0) := (blk_cell BK330.out 2).trans rfl
                          have hcz69_3 : w59.cell? ⟨gb330, 3, none⟩ = some (.int .i64 0) := (blk_cell BK330.out 3).trans rfl
                          have hcz69_4 : w59.cell? ⟨gb330, 4, none⟩ = some (.int .i64 0) := (blk_cell BK330.out 4).trans rfl
                          have hcz69_5 : w59.cell? ⟨gb330, 5, none⟩ = some (.slice A0 y322.length c0) := (blk_cell BK330.out 5).trans rfl
                          have hfz69_0 := blk_frozen BK330.out 0
                          have hfz69_1 := blk_frozen BK330.out 1
                          have hfz69_2 := blk_frozen BK330.out 2
                          have hfz69_3 := blk_frozen BK330.out 3
                          have hfz69_4 := blk_frozen BK330.out 4
                          have hfz69_5 := blk_frozen BK330.out 5
                          have hcz70_0 : w59.cell? ⟨gb350, 0, none⟩ = some (.int .u64 0) := (blk_cell BK350.out 0).trans rfl
                          have hcz70_1 : w59.cell? ⟨gb350, 1, none⟩ = some (.slice none 0 0) := (blk_cell BK350.out 1).trans rfl
                          have hcz70_2 : w59.cell? ⟨gb350, 2, none⟩ = some (.slice none 0 0) := (blk_cell BK350.out 2).trans rfl
                          have hfz70_0 := blk_frozen BK350.out 0
                          have hfz70_1 := blk_frozen BK350.out 1
                          have hfz70_2 := blk_frozen BK350.out 2
                          go_wp2_with (first | ((with_reducible refine gate_callee (f := 33) rfl ?_); refine goesL_ (some 69) rfl rfl Try.func33 (by kernel_rfl) rfl #[.agg #[.int .i64 3, .int .i64 0, .int .i64 0, .int .i64 0, .int .i64 0, .slice A0 y322.length c0], .agg #[.int .u64 t343, .slice Ao62 t344.length co62, .slice Ao63 t347.length co63]] rfl (by (try simp only [List.map_toArray, List.map_cons, List.map_nil]); first | done | rfl | (simp only [List.length_drop, List.length_take]; rfl)) ?_; (with_reducible refine (value_Fits.calls k2 3 0 0 0 0 _ _ y322 t343 _ _ t344 _ _ t347 t351 _ ?side1 ?side2 ?side3 ?side4 ?side5 ?side6 A64.out).mono ?_); (case side1 => exact Kd.C_below HR325.out (by repeat (first | (with_reducible first | exact HB.out | apply below_alloc | apply pw_below_drewN | apply below_drew1 | refine below_set ?_ GE330.out | refine below_set ?_ GE350.out) | exact HB.out))); (case side2 => exact HC325.out); (case side3 => refine (Kd.R_reads' (e := 5) (base := w.heap.size) (ok := fun k_ => True) (n := t344.length) (c := co62) ?_).2.2; exact (by (with_reducible repeat (first | apply Kd.R_alloc | apply Kd.R_drewN | apply Kd.R_drew)); exact (Kd.R_mono (Kd.R_far (p := ⟨gb350, 2, none⟩) (Kd.R_far (p := ⟨gb350, 1, none⟩) (Kd.R_far (p := ⟨gb350, 0, none⟩) (Kd.R_types HO346.out BK350.out (by decide)) (fun _ hk => hk.2) (.int .u64 t343)) (fun _ hk => hk.2) (.slice Ao62 t344.length co62)) (fun _ hk => hk.2) (.slice Ao63 t347.length co63)) (fun _ h_ => h_.1)))); (case side4 => exact (Kd.R_reads' HO346.out).2.1); (case side5 => refine (Kd.N_reads' (e := 46) (base := w.heap.size) (ok := fun k_ => ((some k_ ≠ (.slice Ao62 t344.length co62 : Value).ownBlock ∧ k_ ≠ gb330) ∧ k_ ≠ gb350)) (n := t347.length) (c := co63) ?_).2.2; exact (by (with_reducible repeat (first | apply Kd.N_alloc | apply Kd.N_drewN | apply Kd.N_drew)); exact (Kd.N_mono (Kd.N_far (p := ⟨gb350, 2, none⟩) (Kd.N_far (p := ⟨gb350, 1, none⟩) (Kd.N_far (p := ⟨gb350, 0, none⟩) (Kd.N_mono HO349.out (fun k_ hk => (⟨hk, hk.2⟩ : _ ∧ k_ ≠ gb350))) (fun _ hk => hk.2) (.int .u64 t343)) (fun _ hk => hk.2) (.slice Ao62 t344.length co62)) (fun _ hk => hk.2) (.slice Ao63 t347.length co63)) (fun _ h_ => h_.1)))); (case side6 => exact (Kd.N_reads' HO349.out).2.1); rintro e w71 ⟨rfl, hb⟩; refine ⟨_, rfl, ?_⟩; have n0_ := Aside0.mk (Kd.R_below (by (with_reducible repeat (first | apply Kd.R_alloc | apply Kd.R_drewN | apply Kd.R_drew)); exact (Kd.R_mono (Kd.R_far (p := ⟨gb350, 2, none⟩) (Kd.R_far (p := ⟨gb350, 1, none⟩) (Kd.R_far (p := ⟨gb350, 0, none⟩) (Kd.R_types HO346.out BK350.out (by decide)) (fun _ hk => hk.2) (.int .u64 t343)) (fun _ hk => hk.2) (.slice Ao62 t344.length co62)) (fun _ hk => hk.2) (.slice Ao63 t347.length co63)) (fun _ h_ => h_.1))) hb); have n1_ := Aside0.mk (Kd.N_below (by (with_reducible repeat (first | apply Kd.N_alloc | apply Kd.N_drewN | apply Kd.N_drew)); exact (Kd.N_mono (Kd.N_far (p := ⟨gb350, 2, none⟩) (Kd.N_far (p := ⟨gb350, 1, none⟩) (Kd.N_far (p := ⟨gb350, 0, none⟩) (Kd.N_mono HO349.out (fun k_ hk => (⟨hk, hk.2⟩ : _ ∧ k_ ≠ gb350))) (fun _ hk => hk.2) (.int .u64 t343)) (fun _ hk => hk.2) (.slice Ao62 t344.length co62)) (fun _ hk => hk.2) (.slice Ao63 t347.length co63)) (fun _ h_ => h_.1))) hb); have n2_ := Aside0.mk (blk_below (g := gb330) (o := .cells #[.int .i64 3, .int .i64 0, .int .i64 0, .int .i64 0, .int .i64 0, .slice A0 y322.length c0] 27 (0, 0)) (by (with_reducible repeat (first | refine blk_drewN ?_ _ | refine blk_drew ?_ | refine blk_alloc ?_ _)); refine blk_far ?_ NB330_350.out _; (with_reducible repeat (first | refine blk_drewN ?_ _ | refine blk_drew ?_ | refine blk_alloc ?_ _)); refine blk_far ?_ NB330_350.out _; (with_reducible repeat (first | refine blk_drewN ?_ _ | refine blk_drew ?_ | refine blk_alloc ?_ _)); refine blk_far ?_ NB330_350.out _; (with_reducible repeat (first | refine blk_drewN ?_ _ | refine blk_drew ?_ | refine blk_alloc ?_ _)); exact BK330.out) hb); have n3_ := Aside0.mk (blk_below (g := gb350) (o := .cells #[.int .u64 t343, .slice Ao62 t344.length co62, .slice Ao63 t347.length co63] 46 (0, 0)) (by (with_reducible repeat (first | refine blk_drewN ?_ _ | refine blk_drew ?_ | refine blk_alloc ?_ _)); refine blk_put (cs := #[.int .u64 t343, .slice Ao62 t344.length co62, .slice none 0 0]) ?_ 2 _ rfl; (with_reducible repeat (first | refine blk_drewN ?_ _ | refine blk_drew ?_ | refine blk_alloc ?_ _)); refine blk_put (cs := #[.int .u64 t343, .slice none 0 0, .slice none 0 0]) ?_ 1 _ rfl; (with_reducible repeat (first | refine blk_drewN ?_ _ | refine blk_drew ?_ | refine blk_alloc ?_ _)); refine blk_put (cs := #[.int .u64 0, .slice none 0 0, .slice none 0 0]) ?_ 0 _ rfl; (with_reducible repeat (first | refine blk_drewN ?_ _ | refine blk_drew ?_ | refine blk_alloc ?_ _)); exact BK350.out) hb); have n4_ := Aside0.mk (below_step (by repeat (first | (with_reducible first | exact HB.out | apply below_alloc | apply pw_below_drewN | apply below_drew1 | refine below_set ?_ GE330.out | refine below_set ?_ GE350.out) | exact HB.out)) hb); clear HO346; clear HO349; clear BK330; clear BK350; clear HB; have HO346 := n0_; have HO349 := n1_; have BK330 := n2_; have BK350 := n3_; have HB := n4_; clear n0_ n1_ n2_ n3_ n4_; (try clear hb); (try clear hb2); (try clear hk); (try clear hi); have hcz72_0 : w71.cell? ⟨gb330, 0, none⟩ = some (.int .i64 3) := (blk_cell BK330.out 0).trans rfl; have hcz72_1 : w71.cell? ⟨gb330, 1, none⟩ = some (.int .i64 0) := (blk_cell BK330.out 1).trans rfl; have hcz72_2 : w71.cell? ⟨gb330, 2, none⟩ = some (.int .i64 0) := (blk_cell BK330.out 2).trans rfl; have hcz72_3 : w71.cell? ⟨gb330, 3, none⟩ = some (.int .i64 0) := (blk_cell BK330.out 3).trans rfl; have hcz72_4 : w71.cell? ⟨gb330, 4, none⟩ = some (.int .i64 0) := (blk_cell BK330.out 4).trans rfl; have hcz72_5 : w71.cell? ⟨gb330, 5, none⟩ = some (.slice A0 y322.length c0) := (blk_cell BK330.out 5).trans rfl; have hfz72_0 := blk_frozen BK330.out 0; have hfz72_1 := blk_frozen BK330.out 1; have hfz72_2 := blk_frozen BK330.out 2; have hfz72_3 := blk_frozen BK330.out 3; have hfz72_4 := blk_frozen BK330.out 4; have hfz72_5 := blk_frozen BK330.out 5; have hcz73_0 : w71.cell? ⟨gb350, 0, none⟩ = some (.int .u64 t343) := (blk_cell BK350.out 0).trans rfl; have hcz73_1 : w71.cell? ⟨gb350, 1, none⟩ = some (.slice Ao62 t344.length co62) := (blk_cell BK350.out 1).trans rfl; have hcz73_2 : w71.cell? ⟨gb350, 2, none⟩ = some (.slice Ao63 t347.length co63) := (blk_cell BK350.out 2).trans rfl; have hfz73_0 := blk_frozen BK350.out 0; have hfz73_1 := blk_frozen BK350.out 1; have hfz73_2 := blk_frozen BK350.out 2) | (go_at_call 32; (with_reducible refine (value_Size.calls k2 3 0 0 0 0 _ _ y322 t343 _ _ t344 _ _ t347 t352 _ ?side1 ?side2 ?side3 ?side4 ?side5 ?side6 A67.out).mono ?_); (case side1 => repeat (first | exact (Kd.C_below HR325.out HB.out) | (with_reducible refine Kd.C_alloc ?_ _) | (with_reducible refine Kd.C_drewN ?_ _) | (with_reducible refine Kd.C_drew ?_))); (case side2 => exact HC325.out); (case side3 => repeat (first | exact (Kd.R_reads' HO346.out).2.2 | (with_reducible refine Kd.C_alloc ?_ _) | (with_reducible refine Kd.C_drewN ?_ _) | (with_reducible refine Kd.C_drew ?_))); (case side4 => exact (Kd.R_reads' HO346.out).2.1); (case side5 => repeat (first | exact (Kd.N_reads' HO349.out).2.2 | (with_reducible refine Kd.C_alloc ?_ _) | (with_reducible refine Kd.C_drewN ?_ _) | (with_reducible refine Kd.C_drew ?_))); (case side6 => exact (Kd.N_reads' HO349.out).2.1); rintro e w74 ⟨rfl, hb⟩; have n0_ := Aside0.mk (Kd.R_below (by (with_reducible repeat (first | apply Kd.R_alloc | apply Kd.R_drewN | apply Kd.R_drew)); exact HO346.out) hb); have n1_ := Aside0.mk (Kd.N_below (by (with_reducible repeat (first | apply Kd.N_alloc | apply Kd.N_drewN | apply Kd.N_drew)); exact HO349.out) hb); have n2_ := Aside0.mk (blk_below (g := gb330) (o := .cells #[.int .i64 3, .int .i64 0, .int .i64 0, .int .i64 0, .int .i64 0, .slice A0 y322.length c0] 27 (0, 0)) (by (with_reducible repeat (first | refine blk_drewN ?_ _ | refine blk_drew ?_ | refine blk_alloc ?_ _)); exact BK330.out) hb); have n3_ := Aside0.mk (blk_below (g := gb350) (o := .cells #[.int .u64 t343, .slice Ao62 t344.length co62, .slice Ao63 t347.length co63] 46 (0, 0)) (by (with_reducible repeat (first | refine blk_drewN ?_ _ | refine blk_drew ?_ | refine blk_alloc ?_ _)); exact BK350.out) hb); have n4_ := Aside0.mk (below_step (by repeat (first | (with_reducible first | exact HB.out | apply below_alloc | apply pw_below_drewN | apply below_drew1 | refine below_set ?_ GE330.out | refine below_set ?_ GE350.out) | exact HB.out)) hb); clear HO346; clear HO349; clear BK330; clear BK350; clear HB; have HO346 := n0_; have HO349 := n1_; have BK330 := n2_; have BK350 := n3_; have HB := n4_; clear n0_ n1_ n2_ n3_ n4_; (try clear hb); (try clear hb2); (try clear hk); (try clear hi)))
                          go_meet
                          case rel => exact ⟨_, ((t352 != x7_2)), (by first | rfl | (simp; done) | (simp [*]; done)), H', ⟨by have := HJ8.out; have := HK2.out; first | omega | exact Nat.le_refl _⟩, ⟨by (with_reducible repeat (first | apply Kd.R_alloc | apply Kd.R_drewN | apply Kd.R_drew)); exact HO346.out⟩, ⟨by (with_reducible repeat (first | apply Kd.N_alloc | apply Kd.N_drewN | apply Kd.N_drew)); exact Kd.N_mono HO349.out (fun _ hk => ⟨hk.1.1, ⟨hk.1.2, hk.2⟩⟩)⟩, ⟨by (with_reducible repeat (first | refine blk_drewN ?_ _ | refine blk_drew ?_ | refine blk_alloc ?_ _)); exact BK330.out⟩, ⟨by (with_reducible repeat (first | refine blk_drewN ?_ _ | refine blk_drew ?_ | refine blk_alloc ?_ _)); exact BK350.out⟩, ⟨by repeat (first | (with_reducible first | exact HB.out | apply below_alloc | apply pw_below_drewN | apply below_drew1 | refine below_set ?_ GE330.out | refine below_set ?_ GE350.out) | exact HB.out)⟩⟩
                        · rw [if_neg c66] at H
                          have c66b0 : (x8_2 == 0) = false := beq_eq_false_iff_ne.mpr c66
                          have c66b1 : (x8_2 != 0) = true := bne_iff_ne.mpr c66
                          have H' := Aside0.mk H
                          clear H
                          have hnb75 := NB330_350.out
                          have hnc75 := NB350_330.out
                          have hcz76_0 : w59.cell? ⟨gb330, 0, none⟩ = some (.int .i64 3) := (blk_cell BK330.out 0).trans rfl
                          have hcz76_1 : w59.cell? ⟨gb330, 1, none⟩ = some (.int .i64 0) := (blk_cell BK330.out 1).trans rfl
                          have hcz76_2 : w59.cell? ⟨gb330, 2, none⟩ = some (.int .i64 0) := (blk_cell BK330.out 2).trans rfl
                          have hcz76_3 : w59.cell? ⟨gb330, 3, none⟩ = some (.int .i64 0) := (blk_cell BK330.out 3).trans rfl
                          have hcz76_4 : w59.cell? ⟨gb330, 4, none⟩ = some (.int .i64 0) := (blk_cell BK330.out 4).trans rfl
                          have hcz76_5 : w59.cell? ⟨gb330, 5, none⟩ = some (.slice A0 y322.length c0) := (blk_cell BK330.out 5).trans rfl
                          have hfz76_0 := blk_frozen BK330.out 0
                          have hfz76_1 := blk_frozen BK330.out 1
                          have hfz76_2 := blk_frozen BK330.out 2
                          have hfz76_3 := blk_frozen BK330.out 3
                          have hfz76_4 := blk_frozen BK330.out 4
                          have hfz76_5 := blk_frozen BK330.out 5
                          have hcz77_0 : w59.cell? ⟨gb350, 0, none⟩ = some (.int .u64 0) := (blk_cell BK350.out 0).trans rfl
                          have hcz77_1 : w59.cell? ⟨gb350, 1, none⟩ = some (.slice none 0 0) := (blk_cell BK350.out 1).trans rfl
                          have hcz77_2 : w59.cell? ⟨gb350, 2, none⟩ = some (.slice none 0 0) := (blk_cell BK350.out 2).trans rfl
                          have hfz77_0 := blk_frozen BK350.out 0
                          have hfz77_1 := blk_frozen BK350.out 1
                          have hfz77_2 := blk_frozen BK350.out 2
                          go_wp2_with (first | ((with_reducible refine gate_callee (f := 33) rfl ?_); refine goesL_ (some 69) rfl rfl Try.func33 (by kernel_rfl) rfl #[.agg #[.int .i64 3, .int .i64 0, .int .i64 0, .int .i64 0, .int .i64 0, .slice A0 y322.length c0], .agg #[.int .u64 t343, .slice Ao62 t344.length co62, .slice Ao63 t347.length co63]] rfl (by (try simp only [List.map_toArray, List.map_cons, List.map_nil]); first | done | rfl | (simp only [List.length_drop, List.length_take]; rfl)) ?_; (with_reducible refine (value_Fits.calls k2 3 0 0 0 0 _ _ y322 t343 _ _ t344 _ _ t347 t351 _ ?side1 ?side2 ?side3 ?side4 ?side5 ?side6 A64.out).mono ?_); (case side1 => exact Kd.C_below HR325.out (by repeat (first | (with_reducible first | exact HB.out | apply below_alloc | apply pw_below_drewN | apply below_drew1 | refine below_set ?_ GE330.out | refine below_set ?_ GE350.out) | exact HB.out))); (case side2 => exact HC325.out); (case side3 => refine (Kd.R_reads' (e := 5) (base := w.heap.size) (ok := fun k_ => True) (n := t344.length) (c := co62) ?_).2.2; exact (by (with_reducible repeat (first | apply Kd.R_alloc | apply Kd.R_drewN | apply Kd.R_drew)); exact (Kd.R_mono (Kd.R_far (p := ⟨gb350, 2, none⟩) (Kd.R_far (p := ⟨gb350, 1, none⟩) (Kd.R_far (p := ⟨gb350, 0, none⟩) (Kd.R_types HO346.out BK350.out (by decide)) (fun _ hk => hk.2) (.int .u64 t343)) (fun _ hk => hk.2) (.slice Ao62 t344.length co62)) (fun _ hk => hk.2) (.slice Ao63 t347.length co63)) (fun _ h_ => h_.1)))); (case side4 => exact (Kd.R_reads' HO346.out).2.1); (case side5 => refine (Kd.N_reads' (e := 46) (base := w.heap.size) (ok := fun k_ => ((some k_ ≠ (.slice Ao62 t344.length co62 : Value).ownBlock ∧ k_ ≠ gb330) ∧ k_ ≠ gb350)) (n := t347.length) (c := co63) ?_).2.2; exact (by (with_reducible repeat (first | apply Kd.N_alloc | apply Kd.N_drewN | apply Kd.N_drew)); exact (Kd.N_mono (Kd.N_far (p := ⟨gb350, 2, none⟩) (Kd.N_far (p := ⟨gb350, 1, none⟩) (Kd.N_far (p := ⟨gb350, 0, none⟩) (Kd.N_mono HO349.out (fun k_ hk => (⟨hk, hk.2⟩ : _ ∧ k_ ≠ gb350))) (fun _ hk => hk.2) (.int .u64 t343)) (fun _ hk => hk.2) (.slice Ao62 t344.length co62)) (fun _ hk => hk.2) (.slice Ao63 t347.length co63)) (fun _ h_ => h_.1)))); (case side6 => exact (Kd.N_reads' HO349.out).2.1); rintro e w78 ⟨rfl, hb⟩; refine ⟨_, rfl, ?_⟩; have n0_ := Aside0.mk (Kd.R_below (by (with_reducible repeat (first | apply Kd.R_alloc | apply Kd.R_drewN | apply Kd.R_drew)); exact (Kd.R_mono (Kd.R_far (p := ⟨gb350, 2, none⟩) (Kd.R_far (p := ⟨gb350, 1, none⟩) (Kd.R_far (p := ⟨gb350, 0, none⟩) (Kd.R_types HO346.out BK350.out (by decide)) (fun _ hk => hk.2) (.int .u64 t343)) (fun _ hk => hk.2) (.slice Ao62 t344.length co62)) (fun _ hk => hk.2) (.slice Ao63 t347.length co63)) (fun _ h_ => h_.1))) hb); have n1_ := Aside0.mk (Kd.N_below (by (with_reducible repeat (first | apply Kd.N_alloc | apply Kd.N_drewN | apply Kd.N_drew)); exact (Kd.N_mono (Kd.N_far (p := ⟨gb350, 2, none⟩) (Kd.N_far (p := ⟨gb350, 1, none⟩) (Kd.N_far (p := ⟨gb350, 0, none⟩) (Kd.N_mono HO349.out (fun k_ hk => (⟨hk, hk.2⟩ : _ ∧ k_ ≠ gb350))) (fun _ hk => hk.2) (.int .u64 t343)) (fun _ hk => hk.2) (.slice Ao62 t344.length co62)) (fun _ hk => hk.2) (.slice Ao63 t347.length co63)) (fun _ h_ => h_.1))) hb); have n2_ := Aside0.mk (blk_below (g := gb330) (o := .cells #[.int .i64 3, .int .i64 0, .int .i64 0, .int .i64 0, .int .i64 0, .slice A0 y322.length c0] 27 (0, 0)) (by (with_reducible repeat (first | refine blk_drewN ?_ _ | refine blk_drew ?_ | refine blk_alloc ?_ _)); refine blk_far ?_ NB330_350.out _; (with_reducible repeat (first | refine blk_drewN ?_ _ | refine blk_drew ?_ | refine blk_alloc ?_ _)); refine blk_far ?_ NB330_350.out _; (with_reducible repeat (first | refine blk_drewN ?_ _ | refine blk_drew ?_ | refine blk_alloc ?_ _)); refine blk_far ?_ NB330_350.out _; (with_reducible repeat (first | refine blk_drewN ?_ _ | refine blk_drew ?_ | refine blk_alloc ?_ _)); exact BK330.out) hb); have n3_ := Aside0.mk (blk_below (g := gb350) (o := .cells #[.int .u64 t343, .slice Ao62 t344.length co62, .slice Ao63 t347.length co63] 46 (0, 0)) (by (with_reducible repeat (first | refine blk_drewN ?_ _ | refine blk_drew ?_ | refine blk_alloc ?_ _)); refine blk_put (cs := #[.int .u64 t343, .slice Ao62 t344.length co62, .slice none 0 0]) ?_ 2 _ rfl; (with_reducible repeat (first | refine blk_drewN ?_ _ | refine blk_drew ?_ | refine blk_alloc ?_ _)); refine blk_put (cs := #[.int .u64 t343, .slice none 0 0, .slice none 0 0]) ?_ 1 _ rfl; (with_reducible repeat (first | refine blk_drewN ?_ _ | refine blk_drew ?_ | refine blk_alloc ?_ _)); refine blk_put (cs := #[.int .u64 0, .slice none 0 0, .slice none 0 0]) ?_ 0 _ rfl; (with_reducible repeat (first | refine blk_drewN ?_ _ | refine blk_drew ?_ | refine blk_alloc ?_ _)); exact BK350.out) hb); have n4_ := Aside0.mk (below_step (by repeat (first | (with_reducible first | exact HB.out | apply below_alloc | apply pw_below_drewN | apply below_drew1 | refine below_set ?_ GE330.out | refine below_set ?_ GE350.out) | exact HB.out)) hb); clear HO346; clear HO349; clear BK330; clear BK350; clear HB; have HO346 := n0_; have HO349 := n1_; have BK330 := n2_; have BK350 := n3_; have HB := n4_; clear n0_ n1_ n2_ n3_ n4_; (try clear hb); (try clear hb2); (try clear hk); (try clear hi)))
                          go_meet
                          case rel => exact ⟨_, (false), (by first | rfl | (simp; done) | (simp [*]; done)), H', ⟨by have := HJ8.out; have := HK2.out; first | omega | exact Nat.le_refl _⟩, ⟨by (with_reducible repeat (first | apply Kd.R_alloc | apply Kd.R_drewN | apply Kd.R_drew)); exact HO346.out⟩, ⟨by (with_reducible repeat (first | apply Kd.N_alloc | apply Kd.N_drewN | apply Kd.N_drew)); exact Kd.N_mono HO349.out (fun _ hk => ⟨hk.1.1, ⟨hk.1.2, hk.2⟩⟩)⟩, ⟨by (with_reducible repeat (first | refine blk_drewN ?_ _ | refine blk_drew ?_ | refine blk_alloc ?_ _)); exact BK330.out⟩, ⟨by (with_reducible repeat (first | refine blk_drewN ?_ _ | refine blk_drew ?_ | refine blk_alloc ?_ _)); exact BK350.out⟩, ⟨by repeat (first | (with_reducible first | exact HB.out | apply below_alloc | apply pw_below_drewN | apply below_drew1 | refine below_set ?_ GE330.out | refine below_set ?_ GE350.out) | exact HB.out)⟩⟩
                      · rw [if_neg c65] at H
                        have c65b0 : (t351 == x8_2) = false := beq_eq_false_iff_ne.mpr c65
                        have c65b1 : (t351 != x8_2) = true := bne_iff_ne.mpr c65
                        (first | rw [c65b0] | (simp only [i64_w, i32_w]; rw [c65b0]) | skip)
                        have H' := Aside0.mk H
                        clear H
                        have hnb79 := NB330_350.out
                        have hnc79 := NB350_330.out
                        have hcz80_0 : w59.cell? ⟨gb330, 0, none⟩ = some (.int .i64 3) := (blk_cell BK330.out 0).trans rfl
                        have hcz80_1 : w59.cell? ⟨gb330, 1, none⟩ = some (.int .i64 0) := (blk_cell BK330.out 1).trans rfl
                        have hcz80_2 : w59.cell? ⟨gb330, 2, none⟩ = some (.int .i64 0) := (blk_cell BK330.out 2).trans rfl
                        have hcz80_3 : w59.cell? ⟨gb330, 3, none⟩ = some (.int .i64 0) := (blk_cell BK330.out 3).trans rfl
                        have hcz80_4 : w59.cell? ⟨gb330, 4, none⟩ = some (.int .i64 0) := (blk_cell BK330.out 4).trans rfl
                        have hcz80_5 : w59.cell? ⟨gb330, 5, none⟩ = some (.slice A0 y322.length c0) := (blk_cell BK330.out 5).trans rfl
                        have hfz80_0 := blk_frozen BK330.out 0
                        have hfz80_1 := blk_frozen BK330.out 1
                        have hfz80_2 := blk_frozen BK330.out 2
                        have hfz80_3 := blk_frozen BK330.out 3
                        have hfz80_4 := blk_frozen BK330.out 4
                        have hfz80_5 := blk_frozen BK330.out 5
                        have hcz81_0 : w59.cell? ⟨gb350, 0, none⟩ = some (.int .u64 0) := (blk_cell BK350.out 0).trans rfl
                        have hcz81_1 : w59.cell? ⟨gb350, 1, none⟩ = some (.slice none 0 0) := (blk_cell BK350.out 1).trans rfl
                        have hcz81_2 : w59.cell? ⟨gb350, 2, none⟩ = some (.slice none 0 0) := (blk_cell BK350.out 2).trans rfl
                        have hfz81_0 := blk_frozen BK350.out 0
                        have hfz81_1 := blk_frozen BK350.out 1
                        have hfz81_2 := blk_frozen BK350.out 2
                        go_wp2_with (first | ((with_reducible refine gate_callee (f := 33) rfl ?_); refine goesL_ (some 69) rfl rfl Try.func33 (by kernel_rfl) rfl #[.agg #[.int .i64 3, .int .i64 0, .int .i64 0, .int .i64 0, .int .i64 0, .slice A0 y322.length c0], .agg #[.int .u64 t343, .slice Ao62 t344.length co62, .slice Ao63 t347.length co63]] rfl (by (try simp only [List.map_toArray, List.map_cons, List.map_nil]); first | done | rfl | (simp only [List.length_drop, List.length_take]; rfl)) ?_; (with_reducible refine (value_Fits.calls k2 3 0 0 0 0 _ _ y322 t343 _ _ t344 _ _ t347 t351 _ ?side1 ?side2 ?side3 ?side4 ?side5 ?side6 A64.out).mono ?_); (case side1 => exact Kd.C_below HR325.out (by repeat (first | (with_reducible first | exact HB.out | apply below_alloc | apply pw_below_drewN | apply below_drew1 | refine below_set ?_ GE330.out | refine below_set ?_ GE350.out) | exact HB.out))); (case side2 => exact HC325.out); (case side3 => refine (Kd.R_reads' (e := 5) (base := w.heap.size) (ok := fun k_ => True) (n := t344.length) (c := co62) ?_).2.2; exact (by (with_reducible repeat (first | apply Kd.R_alloc | apply Kd.R_drewN | apply Kd.R_drew)); exact (Kd.R_mono (Kd.R_far (p := ⟨gb350, 2, none⟩) (Kd.R_far (p := ⟨gb350, 1, none⟩) (Kd.R_far (p := ⟨gb350, 0, none⟩) (Kd.R_types HO346.out BK350.out (by decide)) (fun _ hk => hk.2) (.int .u64 t343)) (fun _ hk => hk.2) (.slice Ao62 t344.length co62)) (fun _ hk => hk.2) (.slice Ao63 t347.length co63)) (fun _ h_ => h_.1)))); (case side4 => exact (Kd.R_reads' HO346.out).2.1); (case side5 => refine (Kd.N_reads' (e := 46) (base := w.heap.size) (ok := fun k_ => ((some k_ ≠ (.slice Ao62 t344.length co62 : Value).ownBlock ∧ k_ ≠ gb330) ∧ k_ ≠ gb350)) (n := t347.length) (c := co63) ?_).2.2; exact (by (with_reducible repeat (first | apply Kd.N_alloc | apply Kd.N_drewN | apply Kd.N_drew)); exact (Kd.N_mono (Kd.N_far (p := ⟨gb350, 2, none⟩) (Kd.N_far (p := ⟨gb350, 1, none⟩) (Kd.N_far (p := ⟨gb350, 0, none⟩) (Kd.N_mono HO349.out (fun k_ hk => (⟨hk, hk.2⟩ : _ ∧ k_ ≠ gb350))) (fun _ hk => hk.2) (.int .u64 t343)) (fun _ hk => hk.2) (.slice Ao62 t344.length co62)) (fun _ hk => hk.2) (.slice Ao63 t347.length co63)) (fun _ h_ => h_.1)))); (case side6 => exact (Kd.N_reads' HO349.out).2.1); rintro e w82 ⟨rfl, hb⟩; refine ⟨_, rfl, ?_⟩; have n0_ := Aside0.mk (Kd.R_below (by (with_reducible repeat (first | apply Kd.R_alloc | apply Kd.R_drewN | apply Kd.R_drew)); exact (Kd.R_mono (Kd.R_far (p := ⟨gb350, 2, none⟩) (Kd.R_far (p := ⟨gb350, 1, none⟩) (Kd.R_far (p := ⟨gb350, 0, none⟩) (Kd.R_types HO346.out BK350.out (by decide)) (fun _ hk => hk.2) (.int .u64 t343)) (fun _ hk => hk.2) (.slice Ao62 t344.length co62)) (fun _ hk => hk.2) (.slice Ao63 t347.length co63)) (fun _ h_ => h_.1))) hb); have n1_ := Aside0.mk (Kd.N_below (by (with_reducible repeat (first | apply Kd.N_alloc | apply Kd.N_drewN | apply Kd.N_drew)); exact (Kd.N_mono (Kd.N_far (p := ⟨gb350, 2, none⟩) (Kd.N_far (p := ⟨gb350, 1, none⟩) (Kd.N_far (p := ⟨gb350, 0, none⟩) (Kd.N_mono HO349.out (fun k_ hk => (⟨hk, hk.2⟩ : _ ∧ k_ ≠ gb350))) (fun _ hk => hk.2) (.int .u64 t343)) (fun _ hk => hk.2) (.slice Ao62 t344.length co62)) (fun _ hk => hk.2) (.slice Ao63 t347.length co63)) (fun _ h_ => h_.1))) hb); have n2_ := Aside0.mk (blk_below (g := gb330) (o := .cells #[.int .i64 3, .int .i64 0, .int .i64 0, .int .i64 0, .int .i64 0, .slice A0 y322.length c0] 27 (0, 0)) (by (with_reducible repeat (first | refine blk_drewN ?_ _ | refine blk_drew ?_ | refine blk_alloc ?_ _)); refine blk_far ?_ NB330_350.out _; (with_reducible repeat (first | refine blk_drewN ?_ _ | refine blk_drew ?_ | refine blk_alloc ?_ _)); refine blk_far ?_ NB330_350.out _; (with_reducible repeat (first | refine blk_drewN ?_ _ | refine blk_drew ?_ | refine blk_alloc ?_ _)); refine blk_far ?_ NB330_350.out _; (with_reducible repeat (first | refine blk_drewN ?_ _ | refine blk_drew ?_ | refine blk_alloc ?_ _)); exact BK330.out) hb); have n3_ := Aside0.mk (blk_below (g := gb350) (o := .cells #[.int .u64 t343, .slice Ao62 t344.length co62, .slice Ao63 t347.length co63] 46 (0, 0)) (by (with_reducible repeat (first | refine blk_drewN ?_ _ | refine blk_drew ?_ | refine blk_alloc ?_ _)); refine blk_put (cs := #[.int .u64 t343, .slice Ao62 t344.length co62, .slice none 0 0]) ?_ 2 _ rfl; (with_reducible repeat (first | refine blk_drewN ?_ _ | refine blk_drew ?_ | refine blk_alloc ?_ _)); refine blk_put (cs := #[.int .u64 t343, .slice none 0 0, .slice none 0 0]) ?_ 1 _ rfl; (with_reducible repeat (first | refine blk_drewN ?_ _ | refine blk_drew ?_ | refine blk_alloc ?_ _)); refine blk_put (cs := #[.int .u64 0, .slice none 0 0, .slice none 0 0]) ?_ 0 _ rfl; (with_reducible repeat (first | refine blk_drewN ?_ _ | refine blk_drew ?_ | refine blk_alloc ?_ _)); exact BK350.out) hb); have n4_ := Aside0.mk (below_step (by repeat (first | (with_reducible first | exact HB.out | apply below_alloc | apply pw_below_drewN | apply below_drew1 | refine below_set ?_ GE330.out | refine below_set ?_ GE350.out) | exact HB.out)) hb); clear HO346; clear HO349; clear BK330; clear BK350; clear HB; have HO346 := n0_; have HO349 := n1_; have BK330 := n2_; have BK350 := n3_; have HB := n4_; clear n0_ n1_ n2_ n3_ n4_; (try clear hb); (try clear hb2); (try clear hk); (try clear hi)))
                        go_meet
                        case rel => exact ⟨_, (true), (by first | rfl | (simp; done) | (simp [*]; done)), H', ⟨by have := HJ8.out; have := HK2.out; first | omega | exact Nat.le_refl _⟩, ⟨by (with_reducible repeat (first | apply Kd.R_alloc | apply Kd.R_drewN | apply Kd.R_drew)); exact HO346.out⟩, ⟨by (with_reducible repeat (first | apply Kd.N_alloc | apply Kd.N_drewN | apply Kd.N_drew)); exact Kd.N_mono HO349.out (fun _ hk => ⟨hk.1.1, ⟨hk.1.2, hk.2⟩⟩)⟩, ⟨by (with_reducible repeat (first | refine blk_drewN ?_ _ | refine blk_drew ?_ | refine blk_alloc ?_ _)); exact BK330.out⟩, ⟨by (with_reducible repeat (first | refine blk_drewN ?_ _ | refine blk_drew ?_ | refine blk_alloc ?_ _)); exact BK350.out⟩, ⟨by repeat (first | (with_reducible first | exact HB.out | apply below_alloc | apply pw_below_drewN | apply below_drew1 | refine below_set ?_ GE330.out | refine below_set ?_ GE350.out) | exact HB.out)⟩⟩
                    case rest =>
                      clear HC57
                      try clear c1
                      try clear p2
                      try clear c3
                      try clear p3
                      try clear q3
                      try clear hx3
                      try clear c4
                      try clear c6
                      try clear p6
                      try clear c7
                      try clear c32
                      try clear c32b0
                      try clear c33
                      try clear p33
                      try clear q33
                      try clear hx33
                      try clear c34
                      try clear p34
                      try clear q34
                      try clear hx34
                      try clear c35
                      try clear c36
                      try clear c37
                      try clear c37b0
                      try clear c37b1
                      try clear c49
                      try clear c60
                      try clear p64
                      try clear c65
                      try clear c65b0
                      try clear c65b1
                      try clear c66
                      try clear c66b0
                      try clear c66b1
                      try clear c68
                      try clear c75
                      try clear c79
                      try clear hcz50_0
                      try clear hcz50_1
                      try clear hcz50_2
                      try clear hcz50_3
                      try clear hcz50_4
                      try clear hcz50_5
                      try clear hcz61_0
                      try clear hcz61_1
                      try clear hcz61_2
                      try clear hcz69_0
                      try clear hcz69_1
                      try clear hcz69_2
                      try clear hcz69_3
                      try clear hcz69_4
                      try clear hcz69_5
                      try clear hcz70_0
                      try clear hcz70_1
                      try clear hcz70_2
                      try clear hcz72_0
                      try clear hcz72_1
                      try clear hcz72_2
                      try clear hcz72_3
                      try clear hcz72_4
                      try clear hcz72_5
                      try clear hcz73_0
                      try clear hcz73_1
                      try clear hcz73_2
                      try clear hcz76_0
                      try clear hcz76_1
                      try clear hcz76_2
                      try clear hcz76_3
                      try clear hcz76_4
                      try clear hcz76_5
                      try clear hcz77_0
                      try clear hcz77_1
                      try clear hcz77_2
                      try clear hcz80_0
                      try clear hcz80_1
                      try clear hcz80_2
                      try clear hcz80_3
                      try clear hcz80_4
                      try clear hcz80_5
                      try clear hcz81_0
                      try clear hcz81_1
                      try clear hcz81_2
                      try clear hfz50_0
                      try clear hfz50_1
                      try clear hfz50_2
                      try clear hfz50_3
                      try clear hfz50_4
                      try clear hfz50_5
                      try clear hfz61_0
                      try clear hfz61_1
                      try clear hfz61_2
                      try clear hfz69_0
                      try clear hfz69_1
                      try clear hfz69_2
                      try clear hfz69_3
                      try clear hfz69_4
                      try clear hfz69_5
                      try clear hfz70_0
                      try clear hfz70_1
                      try clear hfz70_2
                      try clear hfz72_0
                      try clear hfz72_1
                      try clear hfz72_2
                      try clear hfz72_3
                      try clear hfz72_4
                      try clear hfz72_5
                      try clear hfz73_0
                      try clear hfz73_1
                      try clear hfz73_2
                      try clear hfz76_0
                      try clear hfz76_1
                      try clear hfz76_2
                      try clear hfz76_3
                      try clear hfz76_4
                      try clear hfz76_5
                      try clear hfz77_0
                      try clear hfz77_1
                      try clear hfz77_2
                      try clear hfz80_0
                      try clear hfz80_1
                      try clear hfz80_2
                      try clear hfz80_3
                      try clear hfz80_4
                      try clear hfz80_5
                      try clear hfz81_0
                      try clear hfz81_1
                      try clear hfz81_2
                      try clear hx335_0
                      try clear hx335_1
                      try clear hx335_2
                      try clear hx335_3
                      try clear hx335_4
                      try clear hx335_5
                      try clear hx337_0
                      try clear hx337_1
                      try clear hx337_2
                      try clear hx339_0
                      try clear hx339_1
                      try clear hx339_2
                      try clear hx341_0
                      try clear hx341_1
                      try clear hx341_2
                      try clear p335
                      try clear p337
                      try clear p339
                      try clear p341
                      try clear q335
                      try clear q337
                      try clear q339
                      try clear q341
                      obtain ⟨kq, x82_56, rfl, HA, HJ56, HO_351001, HO_351002, BK330, BK350, HB⟩ := hcut
                      cases kq with
                      | zero => exact absurd HA.out (by simp [passepartoutlaw05_ValueRows.j2])
                      | succ kj56 =>
                        have H := HA.out
                        clear HA
                        simp only [passepartoutlaw05_ValueRows.j2] at H
                        by_cases c83 : x82_56 = true
                        · subst c83
                          have H1 : (some false) = some r := by rw [if_pos rfl] at H; exact H
                          clear H
                          have H := H1
                          clear H1
                          obtain rfl := Option.some.inj H
                          go_wp2
                          go_ret
                          exact ⟨by first | rfl | (simp [errW_none, errW_some] <;> rfl) | (simp only [← hji3, ← hji4]; first | rfl | (simp [errW_none, errW_some] <;> rfl)) | (simp [*, errW_none, errW_some] <;> rfl), by repeat (first | (with_reducible first | exact HB.out | apply below_alloc | apply pw_below_drewN | apply below_drew1 | refine below_set ?_ GE330.out | refine below_set ?_ GE350.out) | exact HB.out)⟩
                        · replace c83 := Bool.eq_false_iff.mpr c83
                          subst c83
                          have H1 : (if ji4 = 0 then (some true) else (if 0 ≤ (wrap64 (ji4 - 1)) then (if (wrap64 (ji4 - 1)) ≤ (y326.length : Int) then ((some (y326.take ((wrap64 (ji4 - 1)) : Int).toNat : List (S46))).bind fun y353 => ((value_List.f y353).bind fun bt357 => ((value_Fits.f kj56 3 0 0 0 0 y322 bt357.1 bt357.2.1 bt357.2.2).bind fun t364 => (if t364 = 15 then ((value_List.f y353).bind fun bt369 => ((value_Size.f kj56 3 0 0 0 0 y322 bt369.1 bt369.2.1 bt369.2.2).bind fun t376 => (some (t376 == 0)))) else (some false))))) else (none)) else (none))) = some r := by rw [if_neg (show ¬ (false = true) by decide)] at H; exact H
                          clear H
                          have H := H1
                          clear H1
                          by_cases c84 : ji4 = 0
                          · rw [if_pos c84] at H
                            have c84b0 : (ji4 == 0) = true := beq_iff_eq.mpr c84
                            have c84b1 : (ji4 != 0) = false := bne_eq_false_iff_eq.mpr c84
                            clear c84
                            obtain rfl := Option.some.inj H
                            go_wp2
                            go_ret
                            exact ⟨by first | rfl | (simp [errW_none, errW_some] <;> rfl) | (simp only [← hji3, ← hji4]; first | rfl | (simp [errW_none, errW_some] <;> rfl)) | (simp [*, errW_none, errW_some] <;> rfl), by repeat (first | (with_reducible first | exact HB.out | apply below_alloc | apply pw_below_drewN | apply below_drew1 | refine below_set ?_ GE330.out | refine below_set ?_ GE350.out) | exact HB.out)⟩
                          · rw [if_neg c84] at H
                            have c84b0 : (ji4 == 0) = false := beq_eq_false_iff_ne.mpr c84
                            have c84b1 : (ji4 != 0) = true := bne_iff_ne.mpr c84
                            obtain ⟨ji85, hji85⟩ : ∃ j_ : Int, (wrap64 (ji4 - 1)) = j_ := ⟨_, rfl⟩
                            replace H : (if 0 ≤ (ji85) then (if (ji85) ≤ (y326.length : Int) then ((some (y326.take ((ji85) : Int).toNat : List (S46))).bind fun y353 => ((value_List.f y353).bind fun bt357 => ((value_Fits.f kj56 3 0 0 0 0 y322 bt357.1 bt357.2.1 bt357.2.2).bind fun t364 => (if t364 = 15 then ((value_List.f y353).bind fun bt369 => ((value_Size.f kj56 3 0 0 0 0 y322 bt369.1 bt369.2.1 bt369.2.2).bind fun t376 => (some (t376 == 0)))) else (some false))))) else (none)) else (none)) = some r := by first | (rw [hji85] at H; exact H) | (simp only [hji85] at H ⊢; exact H)
                            have hji85w : (IntKind.i64.wrap (ji4 - 1)) = ji85 := (i64_w _).trans hji85
                            by_cases c86 : 0 ≤ (ji85)
                            · rw [if_pos c86] at H
                              have c86b0 := eq_true c86
                              have c86b1 : decide (0 ≤ (ji85)) = true := decide_eq_true c86
                              clear c86
                              by_cases c87 : (ji85) ≤ (y326.length : Int)
                              · rw [if_pos c87] at H
                                have c87b0 := eq_true c87
                                have c87b1 : decide ((ji85) ≤ (y326.length : Int)) = true := decide_eq_true c87
                                clear c87
                                obtain ⟨y353, hy353⟩ : ∃ y_ : List (S46), y_ = (y326.take ((ji85) : Int).toNat) := ⟨_, rfl⟩
                                replace H : ((value_List.f y353).bind fun bt357 => ((value_Fits.f kj56 3 0 0 0 0 y322 bt357.1 bt357.2.1 bt357.2.2).bind fun t364 => (if t364 = 15 then ((value_List.f y353).bind fun bt369 => ((value_Size.f kj56 3 0 0 0 0 y322 bt369.1 bt369.2.1 bt369.2.2).bind fun t376 => (some (t376 == 0)))) else (some false)))) = some r := by first | (rw [hy353]; with_reducible exact H) | (have H2_ := (Option.bind_some _ _).symm.trans H; rw [hy353]; with_reducible exact H2_) | (have H2_ := (Option.bind_some _ _).symm.trans H; with_reducible exact H2_) | with_reducible exact H | (rw [hy353]; exact H) | exact H
                                have Ny353 := Aside0.mk hy353
                                clear hy353
                                replace H := Option.bind_eq_some_iff.mp H
                                obtain ⟨⟨t357, t358, t361⟩, A880, H⟩ := H
                                replace H : ((value_Fits.f kj56 3 0 0 0 0 y322 t357 t358 t361).bind fun t364 => (if t364 = 15 then ((value_List.f y353).bind fun bt369 => ((value_Size.f kj56 3 0 0 0 0 y322 bt369.1 bt369.2.1 bt369.2.2).bind fun t376 => (some (t376 == 0)))) else (some false))) = some r := H
                                have A88 := Aside0.mk A880
                                clear A880
                                replace H := Option.bind_eq_some_iff.mp H
                                obtain ⟨t364, A890, H⟩ := H
                                replace H : (if t364 = 15 then ((value_List.f y353).bind fun bt369 => ((value_Size.f kj56 3 0 0 0 0 y322 bt369.1 bt369.2.1 bt369.2.2).bind fun t376 => (some (t376 == 0)))) else (some false)) = some r := H
                                have A89 := Aside0.mk A890
                                clear A890
                                by_cases c90 : t364 = 15
                                · rw [if_pos c90] at H
                                  have c90b0 : (t364 == 15) = true := beq_iff_eq.mpr c90
                                  have c90b1 : (t364 != 15) = false := bne_eq_false_iff_eq.mpr c90
                                  clear c90
                                  replace H := Option.bind_eq_some_iff.mp H
                                  obtain ⟨⟨t369, t370, t373⟩, A910, H⟩ := H
                                  replace H : ((value_Size.f kj56 3 0 0 0 0 y322 t369 t370 t373).bind fun t376 => (some (t376 == 0))) = some r := H
                                  have A91 := Aside0.mk A910
                                  clear A910
                                  replace H := Option.bind_eq_some_iff.mp H
                                  obtain ⟨t376, A920, H⟩ := H
                                  replace H : (some (t376 == 0)) = some r := H
                                  have A92 := Aside0.mk A920
                                  clear A920
                                  obtain rfl := Option.some.inj H
                                  try go_wp2
                                  have n0_ := Aside0.mk (Kd.R_drew HO_351001.out)
                                  have n1_ := Aside0.mk (Kd.N_drew HO_351002.out)
                                  have n2_ := Aside0.mk (blk_drew BK330.out)
                                  have n3_ := Aside0.mk (blk_drew BK350.out)
                                  have n4_ := Aside0.mk (below_drew1 HB.out)
                                  clear HO_351001
                                  clear HO_351002
                                  clear BK330
                                  clear BK350
                                  clear HB
                                  have HO_351001 := n0_
                                  have HO_351002 := n1_
                                  have BK330 := n2_
                                  have BK350 := n3_
                                  have HB := n4_
                                  clear n0_ n1_ n2_ n3_ n4_
                                  have q94 : ((ji85) : Int) ≤ ((y326.length : Int) : Int) := of_decide_eq_true (by first | (with_reducible assumption) | assumption)
                                  obtain ⟨i094, hi094, _, hsz94, _⟩ := info_parts info46
                                  have hroom94 : y326.length ≤ c1 := HC329.out
                                  have hC94 : Kd.C k46 _ A1 y326.length y326 := HR329.out
                                  have hcut94 := cut_to (P := Try.prog) 44 46 .i64 Try.underlying44 hi094 A1 y326.length c1 (ji85) (of_decide_eq_true (by first | (with_reducible assumption) | assumption)) q94 hroom94
                                  have hr94 := Kd.C_take (m := ((ji85) : Int).toNat) hC94 (by omega)
                                  have hy94 : y353.length = ((ji85) : Int).toNat := (by rw [Ny353.out, List.length_take]; omega)
                                  rw [← Ny353.out] at hr94
                                  rw [← hy94] at hcut94
                                  have HR356 := Aside0.mk hr94
                                  have HC356 := Aside0.mk (show y353.length ≤ c1 from by omega)
                                  clear hr94 hC94 hroom94 hi094 hsz94
                                  have KY94 := Aside0.mk hy94
                                  clear hy94
                                  replace q94 := eq_true q94
                                  refine start_ (n := 19) (S := fun w' => w'.cell? ⟨gb330, 0, none⟩ = some (.int .i64 3) ∧ w'.cell? ⟨gb330, 1, none⟩ = some (.int .i64 0) ∧ w'.cell? ⟨gb330, 2, none⟩ = some (.int .i64 0) ∧ w'.cell? ⟨gb330, 3, none⟩ = some (.int .i64 0) ∧ w'.cell? ⟨gb330, 4, none⟩ = some (.int .i64 0) ∧ w'.cell? ⟨gb330, 5, none⟩ = some (.slice A0 y322.length c0)) (ds := []) #[false, false, false, false, false, false, false, false, false, false, false, false, false, false, false, false, false, false, false] (by kernel_rfl) rfl rfl ⟨(blk_cell BK330.out 0).trans rfl, (blk_cell BK330.out 1).trans rfl, (blk_cell BK330.out 2).trans rfl, (blk_cell BK330.out 3).trans rfl, (blk_cell BK330.out 4).trans rfl, (blk_cell BK330.out 5).trans rfl⟩ (fun hHeld => ?_); refine with_tabW passepartoutlaw05_ValueRows.tab20 passepartoutlaw05_ValueRows.bits20 (fun HT_ HW_ => ?_)
                                  generalize wc.drew = w93 at HO_351001 HO_351002 BK330 BK350 HB HR356 hHeld ⊢
                                  refine pure_ (i := 1) (N := some 86) (v := ?_) (a' := ?_) #[false, true, false, false, false, false, false, false, false, false, false, false, false, false, false, false, false, false, false] rfl rfl (any_of HT_.out (by kernel_rfl)) (fun _ _ _ h => h) (Or.inl ⟨by rfl, ?_⟩) ?_ ?_
                                  rotate_left
                                  · intro w'
                                    go_simp
                                    with_reducible rfl
                                  rotate_left
                                  · simp only [Act.put, List.setIfInBounds_toArray, List.set_cons_zero, List.set_cons_succ, i64_w, i32_w]
                                    rfl
                                  refine pure_ (i := 2) (N := some 87) (v := ?_) (a' := ?_) #[false, true, true, false, false, false, false, false, false, false, false, false, false, false, false, false, false, false, false] rfl rfl (any_of HT_.out (by kernel_rfl)) (fun _ _ _ h => h) (Or.inl ⟨by rfl, ?_⟩) ?_ ?_
                                  rotate_left
                                  · intro w'
                                    go_simp
                                    with_reducible rfl
                                  rotate_left
                                  · simp only [Act.put, List.setIfInBounds_toArray, List.set_cons_zero, List.set_cons_succ, i64_w, i32_w]
                                    rfl
                                  refine pure_ (i := 3) (N := some 88) (v := ?_) (a' := ?_) #[false, true, true, true, false, false, false, false, false, false, false, false, false, false, false, false, false, false, false] rfl rfl (any_of HT_.out (by kernel_rfl)) (fun _ _ _ h => h) (Or.inl ⟨by rfl, ?_⟩) ?_ ?_
                                  rotate_left
                                  · intro w'
                                    go_simp
                                    with_reducible rfl
                                  rotate_left
                                  · simp only [Act.put, List.setIfInBounds_toArray, List.set_cons_zero, List.set_cons_succ, i64_w, i32_w]
                                    rfl
                                  refine pure_ (i := 4) (N := some 89) (v := ?_) (a' := ?_) #[false, true, true, true, true, false, false, false, false, false, false, false, false, false, false, false, false, false, false] rfl rfl (any_of HT_.out (by kernel_rfl)) (fun _ _ _ h => h) (Or.inl ⟨by rfl, ?_⟩) ?_ ?_
                                  rotate_left
                                  · intro w'
                                    go_simp
                                    with_reducible rfl
                                  rotate_left
                                  · simp only [Act.put, List.setIfInBounds_toArray, List.set_cons_zero, List.set_cons_succ, i64_w, i32_w]
                                    rfl
                                  refine take_ (i := 0) (N := some 85) (v := ?_) (a' := ?_) #[true, true, true, true, true, false, false, false, false, false, false, false, false, false, false, false, false, false, false] rfl rfl (take_ofW HT_.out HW_.out (by kernel_rfl)) (fun _ _ _ h => h) (Or.inl ⟨by rfl, ?_⟩) hHeld ?_ ?_
                                  rotate_left
                                  · rintro w' ⟨s0, s1, s2, s3, s4, s5⟩
                                    go_simp
                                    with_reducible rfl
                                  rotate_left
                                  · simp only [Act.put, List.setIfInBounds_toArray, List.set_cons_zero, List.set_cons_succ, i64_w, i32_w]
                                    rfl
                                  refine one_ (i := 5) (N := some 90) #[true, true, true, true, true, true, false, false, false, false, false, false, false, false, false, false, false, false, false] rfl rfl (one_of HT_.out (by kernel_rfl)) (by decide) (fun K hK => ?_)
                                  refine goes_ Try.func36 (by kernel_rfl) rfl #[.slice A1 y353.length c1] (by rfl) rfl rfl (by (try simp only [List.map_toArray, List.map_cons, List.map_nil]); first | done | rfl | (simp only [List.length_drop, List.length_take]; rfl)) ?_
                                  with_reducible refine (value_List.calls (fun k_ => k_ < w.heap.size) _ _ y353 t357 t358 t361 _ ?side1 A88.out).mono ?_
                                  (case side1 => exact Kd.V_mk HC356.out (Kd.F_below (Kd.C_F k46_heap HR356.out) (by repeat (first | (with_reducible first | exact HB.out | apply below_alloc | apply pw_below_drewN | apply below_drew1 | refine below_set ?_ GE330.out | refine below_set ?_ GE350.out) | exact HB.out))))
                                  rintro e w95 ⟨v359, v362, rfl, ho0, ho1, hb⟩
                                  refine ⟨_, rfl, ?_⟩
                                  have n0_ := Aside0.mk (Kd.R_elder' (by (with_reducible repeat (first | apply Kd.R_alloc | apply Kd.R_drewN | apply Kd.R_drew)); exact HO_351001.out) (Kd.R_base ho0) hb)
                                  have n1_ := Aside0.mk (Kd.N_mono (Kd.N_told (Kd.N_told (Kd.N_old (by (with_reducible repeat (first | apply Kd.N_alloc | apply Kd.N_drewN | apply Kd.N_drew)); exact HO_351002.out) hb) (Kd.R_base ho0)) (by first | exact Kd.N_base ho1 | exact Kd.R_base ho1)) (fun _ h_ => h_.1))
                                  have n2_ := Aside0.mk (Kd.R_lower (Kd.R_new' (Kd.R_mono (ok' := fun k_ => True) ho0 (fun _ hk_ => trivial)) (Kd.R_lt (by (with_reducible repeat (first | apply Kd.R_alloc | apply Kd.R_drewN | apply Kd.R_drew)); exact HO_351001.out))) (below_size (by repeat (first | (with_reducible first | exact HB.out | apply below_alloc | apply pw_below_drewN | apply below_drew1 | refine below_set ?_ GE330.out | refine below_set ?_ GE350.out) | exact HB.out))))
                                  have n3_ := Aside0.mk (Kd.N_lower (Kd.N_mono (ok' := fun k_ => some k_ ≠ (v359 : Value).ownBlock ∧ some k_ ≠ (.slice Ao62 t344.length co62 : Value).ownBlock ∧ some k_ ≠ (.slice Ao63 t347.length co63 : Value).ownBlock ∧ k_ ≠ gb330 ∧ k_ ≠ gb350) ho1 (fun k_ hk_ => ⟨hk_.2, Or.elim hk_.1 (fun hs_ => fun e_ => Nat.not_le.2 hs_ (Kd.R_base HO_351001.out k_ e_.symm)) (fun hn_ => (Kd.fresh' (Kd.R_lt (by (with_reducible repeat (first | apply Kd.R_alloc | apply Kd.R_drewN | apply Kd.R_drew)); exact HO_351001.out)) k_ hn_)), Or.elim hk_.1 (fun hs_ => fun e_ => Nat.not_le.2 hs_ (Kd.N_base HO_351002.out k_ e_.symm)) (fun hn_ => (Kd.fresh' (Kd.N_lt (by (with_reducible repeat (first | apply Kd.N_alloc | apply Kd.N_drewN | apply Kd.N_drew)); exact HO_351002.out)) k_ hn_)), Or.elim hk_.1 (fun hs_ => fun e_ => Nat.not_le.2 hs_ (by rw [e_]; exact GW330.out)) (fun hn_ => (Kd.freshB (g := gb330) (o := .cells #[.int .i64 3, .int .i64 0, .int .i64 0, .int .i64 0, .int .i64 0, .slice A0 y322.length c0] 27 (0, 0)) (by (with_reducible repeat (first | refine blk_drewN ?_ _ | refine blk_drew ?_ | refine blk_alloc ?_ _)); exact BK330.out) k_ hn_)), Or.elim hk_.1 (fun hs_ => fun e_ => Nat.not_le.2 hs_ (by rw [e_]; exact GW350.out)) (fun hn_ => (Kd.freshB (g := gb350) (o := .cells #[.int .u64 t343, .slice Ao62 t344.length co62, .slice Ao63 t347.length co63] 46 (0, 0)) (by (with_reducible repeat (first | refine blk_drewN ?_ _ | refine blk_drew ?_ | refine blk_alloc ?_ _)); exact BK350.out) k_ hn_))⟩)) (below_size (by repeat (first | (with_reducible first | exact HB.out | apply below_alloc | apply pw_below_drewN | apply below_drew1 | refine below_set ?_ GE330.out | refine below_set ?_ GE350.out) | exact HB.out))))
                                  have n4_ := Aside0.mk (blk_below (g := gb330) (o := .cells #[.int .i64 3, .int .i64 0, .int .i64 0, .int .i64 0, .int .i64 0, .slice A0 y322.length c0] 27 (0, 0)) (by (with_reducible repeat (first | refine blk_drewN ?_ _ | refine blk_drew ?_ | refine blk_alloc ?_ _)); exact BK330.out) hb)
                                  have n5_ := Aside0.mk (blk_below (g := gb350) (o := .cells #[.int .u64 t343, .slice Ao62 t344.length co62, .slice Ao63 t347.length co63] 46 (0, 0)) (by (with_reducible repeat (first | refine blk_drewN ?_ _ | refine blk_drew ?_ | refine blk_alloc ?_ _)); exact BK350.out) hb)
                                  have n6_ := Aside0.mk (below_step (by repeat (first | (with_reducible first | exact HB.out | apply below_alloc | apply pw_below_drewN | apply below_drew1 | refine below_set ?_ GE330.out | refine below_set ?_ GE350.out) | exact HB.out)) hb)
                                  clear HO_351001
                                  clear HO_351002
                                  clear BK330
                                  clear BK350
                                  clear HB
                                  have HO_351001 := n0_
                                  have HO_351002 := n1_
                                  have HO360 := n2_
                                  have HO363 := n3_
                                  have BK330 := n4_
                                  have BK350 := n5_
                                  have HB := n6_
                                  clear n0_ n1_ n2_ n3_ n4_ n5_ n6_
                                  (try clear hb)
                                  (try clear hb2)
                                  (try clear hk)
                                  (try clear hi)
                                  (try clear ho0)
                                  (try clear ho1)
                                  obtain ⟨Ao96, co96, eo96⟩ := Kd.R_slice HO360.out
                                  (first | subst eo96 | (injection eo96 with f1_ f2_ f3_; have f4_ := f1_.symm; have f5_ := f3_.symm; clear f1_ f2_ f3_; subst f4_; subst f5_))
                                  obtain ⟨Ao97, co97, eo97⟩ := Kd.N_slice HO363.out
                                  (first | subst eo97 | (injection eo97 with f1_ f2_ f3_; have f4_ := f1_.symm; have f5_ := f3_.symm; clear f1_ f2_ f3_; subst f4_; subst f5_))
                                  refine hK.out _ _ ⟨(blk_cell BK330.out 0).trans rfl, (blk_cell BK330.out 1).trans rfl, (blk_cell BK330.out 2).trans rfl, (blk_cell BK330.out 3).trans rfl, (blk_cell BK330.out 4).trans rfl, (blk_cell BK330.out 5).trans rfl⟩ (fun hHeld => ?_)
                                  clear hK K
                                  refine norm_ (a' := ?_) ?_ ?_
                                  rotate_left
                                  · show Act.put _ (some 90) _ = _
                                    simp only [Act.put, List.setIfInBounds_toArray, List.set_cons_zero, List.set_cons_succ, i64_w, i32_w]
                                    rfl
                                  refine one_ (i := 6) (N := some 91) #[true, true, true, true, true, true, true, false, false, false, false, false, false, false, false, false, false, false, false] rfl rfl (one_of HT_.out (by kernel_rfl)) (by decide) (fun K hK => ?_)
                                  refine goes_ Try.func33 (by kernel_rfl) rfl #[.agg #[.int .i64 3, .int .i64 0, .int .i64 0, .int .i64 0, .int .i64 0, .slice A0 y322.length c0], .agg #[.int .u64 t357, .slice Ao96 t358.length co96, .slice Ao97 t361.length co97]] (by rfl) rfl rfl (by (try simp only [List.map_toArray, List.map_cons, List.map_nil]); first | done | rfl | (simp only [List.length_drop, List.length_take]; rfl)) ?_
                                  with_reducible refine (value_Fits.calls kj56 3 0 0 0 0 _ _ y322 t357 _ _ t358 _ _ t361 t364 _ ?side1 ?side2 ?side3 ?side4 ?side5 ?side6 A89.out).mono ?_
                                  (case side1 => repeat (first | exact (Kd.C_below HR325.out HB.out) | (with_reducible refine Kd.C_alloc ?_ _) | (with_reducible refine Kd.C_drewN ?_ _) | (with_reducible refine Kd.C_drew ?_)))
                                  (case side2 => exact HC325.out)
                                  (case side3 => repeat (first | exact (Kd.R_reads' HO360.out).2.2 | (with_reducible refine Kd.C_alloc ?_ _) | (with_reducible refine Kd.C_drewN ?_ _) | (with_reducible refine Kd.C_drew ?_)))
                                  (case side4 => exact (Kd.R_reads' HO360.out).2.1)
                                  (case side5 => repeat (first | exact (Kd.N_reads' HO363.out).2.2 | (with_reducible refine Kd.C_alloc ?_ _) | (with_reducible refine Kd.C_drewN ?_ _) | (with_reducible refine Kd.C_drew ?_)))
                                  (case side6 => exact (Kd.N_reads' HO363.out).2.1)
                                  rintro e w98 ⟨rfl, hb⟩
                                  refine ⟨_, rfl, ?_⟩
                                  have n0_ := Aside0.mk (Kd.R_below (by (with_reducible repeat (first | apply Kd.R_alloc | apply Kd.R_drewN | apply Kd.R_drew)); exact HO_351001.out) hb)
                                  have n1_ := Aside0.mk (Kd.N_below (by (with_reducible repeat (first | apply Kd.N_alloc | apply Kd.N_drewN | apply Kd.N_drew)); exact HO_351002.out) hb)
                                  have n2_ := Aside0.mk (Kd.R_below (by (with_reducible repeat (first | apply Kd.R_alloc | apply Kd.R_drewN | apply Kd.R_drew)); exact HO360.out) hb)
                                  have n3_ := Aside0.mk (Kd.N_below (by (with_reducible repeat (first | apply Kd.N_alloc | apply Kd.N_drewN | apply Kd.N_drew)); exact HO363.out) hb)
                                  have n4_ := Aside0.mk (blk_below (g := gb330) (o := .cells #[.int .i64 3, .int .i64 0, .int .i64 0, .int .i64 0, .int .i64 0, .slice A0 y322.length c0] 27 (0, 0)) (by (with_reducible repeat (first | refine blk_drewN ?_ _ | refine blk_drew ?_ | refine blk_alloc ?_ _)); exact BK330.out) hb)
                                  have n5_ := Aside0.mk (blk_below (g := gb350) (o := .cells #[.int .u64 t343, .slice Ao62 t344.length co62, .slice Ao63 t347.length co63] 46 (0, 0)) (by (with_reducible repeat (first | refine blk_drewN ?_ _ | refine blk_drew ?_ | refine blk_alloc ?_ _)); exact BK350.out) hb)
                                  have n6_ := Aside0.mk (below_step (by repeat (first | (with_reducible first | exact HB.out | apply below_alloc | apply pw_below_drewN | apply below_drew1 | refine below_set ?_ GE330.out | refine below_set ?_ GE350.out) | exact HB.out)) hb)
                                  clear HO_351001
                                  clear HO_351002
                                  clear HO360
                                  clear HO363
                                  clear BK330
                                  clear BK350
                                  clear HB
                                  have HO_351001 := n0_
                                  have HO_351002 := n1_
                                  have HO360 := n2_
                                  have HO363 := n3_
                                  have BK330 := n4_
                                  have BK350 := n5_
                                  have HB := n6_
                                  clear n0_ n1_ n2_ n3_ n4_ n5_ n6_
                                  (try clear hb)
                                  (try clear hb2)
                                  (try clear hk)
                                  (try clear hi)
                                  refine hK.out _ _ ⟨(blk_cell BK330.out 0).trans rfl, (blk_cell BK330.out 1).trans rfl, (blk_cell BK330.out 2).trans rfl, (blk_cell BK330.out 3).trans rfl, (blk_cell BK330.out 4).trans rfl, (blk_cell BK330.out 5).trans rfl⟩ (fun hHeld => ?_)
                                  clear hK K
                                  refine norm_ (a' := ?_) ?_ ?_
                                  rotate_left
                                  · show Act.put _ (some 91) _ = _
                                    simp only [Act.put, List.setIfInBounds_toArray, List.set_cons_zero, List.set_cons_succ, i64_w, i32_w]
                                    rfl
                                  refine pure_ (i := 7) (N := some 92) (v := ?_) (a' := ?_) #[true, true, true, true, true, true, true, true, false, false, false, false, false, false, false, false, false, false, false] rfl rfl (any_of HT_.out (by kernel_rfl)) (fun _ _ _ h => h) (Or.inl ⟨by rfl, ?_⟩) ?_ ?_
                                  rotate_left
                                  · intro w'
                                    go_simp
                                    with_reducible rfl
                                  rotate_left
                                  · simp only [Act.put, List.setIfInBounds_toArray, List.set_cons_zero, List.set_cons_succ, i64_w, i32_w]
                                    rfl
                                  refine pure_ (i := 8) (N := some 93) (v := ?_) (a' := ?_) #[true, true, true, true, true, true, true, true, true, false, false, false, false, false, false, false, false, false, false] rfl rfl (any_of HT_.out (by kernel_rfl)) (fun _ _ _ h => h) (Or.inl ⟨by rfl, ?_⟩) ?_ ?_
                                  rotate_left
                                  · intro w'
                                    go_simp
                                    with_reducible rfl
                                  rotate_left
                                  · simp only [Act.put, List.setIfInBounds_toArray, List.set_cons_zero, List.set_cons_succ, i64_w, i32_w]
                                    rfl
                                  refine pure_ (i := 10) (N := some 95) (v := ?_) (a' := ?_) #[true, true, true, true, true, true, true, true, true, false, true, false, false, false, false, false, false, false, false] rfl rfl (any_of HT_.out (by kernel_rfl)) (fun _ _ _ h => h) (Or.inl ⟨by rfl, ?_⟩) ?_ ?_
                                  rotate_left
                                  · intro w'
                                    go_simp
                                    with_reducible rfl
                                  rotate_left
                                  · simp only [Act.put, List.setIfInBounds_toArray, List.set_cons_zero, List.set_cons_succ, i64_w, i32_w]
                                    rfl
                                  refine pure_ (i := 11) (N := some 96) (v := ?_) (a' := ?_) #[true, true, true, true, true, true, true, true, true, false, true, true, false, false, false, false, false, false, false] rfl rfl (any_of HT_.out (by kernel_rfl)) (fun _ _ _ h => h) (Or.inl ⟨by rfl, ?_⟩) ?_ ?_
                                  rotate_left
                                  · intro w'
                                    go_simp
                                    with_reducible rfl
                                  rotate_left
                                  · simp only [Act.put, List.setIfInBounds_toArray, List.set_cons_zero, List.set_cons_succ, i64_w, i32_w]
                                    rfl
                                  refine pure_ (i := 12) (N := some 97) (v := ?_) (a' := ?_) #[true, true, true, true, true, true, true, true, true, false, true, true, true, false, false, false, false, false, false] rfl rfl (any_of HT_.out (by kernel_rfl)) (fun _ _ _ h => h) (Or.inl ⟨by rfl, ?_⟩) ?_ ?_
                                  rotate_left
                                  · intro w'
                                    go_simp
                                    with_reducible rfl
                                  rotate_left
                                  · simp only [Act.put, List.setIfInBounds_toArray, List.set_cons_zero, List.set_cons_succ, i64_w, i32_w]
                                    rfl
                                  refine pure_ (i := 13) (N := some 98) (v := ?_) (a' := ?_) #[true, true, true, true, true, true, true, true, true, false, true, true, true, true, false, false, false, false, false] rfl rfl (any_of HT_.out (by kernel_rfl)) (fun _ _ _ h => h) (Or.inl ⟨by rfl, ?_⟩) ?_ ?_
                                  rotate_left
                                  · intro w'
                                    go_simp
                                    with_reducible rfl
                                  rotate_left
                                  · simp only [Act.put, List.setIfInBounds_toArray, List.set_cons_zero, List.set_cons_succ, i64_w, i32_w]
                                    rfl
                                  refine take_ (i := 9) (N := some 94) (v := ?_) (a' := ?_) #[true, true, true, true, true, true, true, true, true, true, true, true, true, true, false, false, false, false, false] rfl rfl (take_ofW HT_.out HW_.out (by kernel_rfl)) (fun _ _ _ h => h) (Or.inl ⟨by rfl, ?_⟩) hHeld ?_ ?_
                                  rotate_left
                                  · rintro w' ⟨s0, s1, s2, s3, s4, s5⟩
                                    go_simp
                                    with_reducible rfl
                                  rotate_left
                                  · simp only [Act.put, List.setIfInBounds_toArray, List.set_cons_zero, List.set_cons_succ, i64_w, i32_w]
                                    rfl
                                  refine one_ (i := 14) (N := some 99) #[true, true, true, true, true, true, true, true, true, true, true, true, true, true, true, false, false, false, false] rfl rfl (one_of HT_.out (by kernel_rfl)) (by decide) (fun K hK => ?_)
                                  refine goes_ Try.func36 (by kernel_rfl) rfl #[.slice A1 y353.length c1] (by rfl) rfl rfl (by (try simp only [List.map_toArray, List.map_cons, List.map_nil]); first | done | rfl | (simp only [List.length_drop, List.length_take]; rfl)) ?_
                                  with_reducible refine (value_List.calls (fun k_ => k_ < w.heap.size) _ _ y353 t369 t370 t373 _ ?side1 A91.out).mono ?_
                                  (case side1 => exact Kd.V_mk HC356.out (Kd.F_below (Kd.C_F k46_heap HR356.out) (by repeat (first | (with_reducible first | exact HB.out | apply below_alloc | apply pw_below_drewN | apply below_drew1 | refine below_set ?_ GE330.out | refine below_set ?_ GE350.out) | exact HB.out))))
                                  rintro e w99 ⟨v371, v374, rfl, ho0, ho1, hb⟩
                                  refine ⟨_, rfl, ?_⟩
                                  have n0_ := Aside0.mk (Kd.R_elder' (by (with_reducible repeat (first | apply Kd.R_alloc | apply Kd.R_drewN | apply Kd.R_drew)); exact HO_351001.out) (Kd.R_base ho0) hb)
                                  have n1_ := Aside0.mk (Kd.N_mono (Kd.N_told (Kd.N_told (Kd.N_old (by (with_reducible repeat (first | apply Kd.N_alloc | apply Kd.N_drewN | apply Kd.N_drew)); exact HO_351002.out) hb) (Kd.R_base ho0)) (by first | exact Kd.N_base ho1 | exact Kd.R_base ho1)) (fun _ h_ => h_.1))
                                  have n2_ := Aside0.mk (Kd.R_elder' (by (with_reducible repeat (first | apply Kd.R_alloc | apply Kd.R_drewN | apply Kd.R_drew)); exact HO360.out) (Kd.R_base ho0) hb)
                                  have n3_ := Aside0.mk (Kd.N_mono (Kd.N_told (Kd.N_told (Kd.N_old (by (with_reducible repeat (first | apply Kd.N_alloc | apply Kd.N_drewN | apply Kd.N_drew)); exact HO363.out) hb) (Kd.R_base ho0)) (by first | exact Kd.N_base ho1 | exact Kd.R_base ho1)) (fun _ h_ => h_.1))
                                  have n4_ := Aside0.mk (Kd.R_lower (Kd.R_new' (Kd.R_new' (Kd.R_mono (ok' := fun k_ => True) ho0 (fun _ hk_ => trivial)) (Kd.R_lt (by (with_reducible repeat (first | apply Kd.R_alloc | apply Kd.R_drewN | apply Kd.R_drew)); exact HO_351001.out))) (Kd.R_lt (by (with_reducible repeat (first | apply Kd.R_alloc | apply Kd.R_drewN | apply Kd.R_drew)); exact HO360.out))) (below_size (by repeat (first | (with_reducible first | exact HB.out | apply below_alloc | apply pw_below_drewN | apply below_drew1 | refine below_set ?_ GE330.out | refine below_set ?_ GE350.out) | exact HB.out))))
                                  have n5_ := Aside0.mk (Kd.N_lower (Kd.N_mono (ok' := fun k_ => some k_ ≠ (v371 : Value).ownBlock ∧ some k_ ≠ (.slice Ao62 t344.length co62 : Value).ownBlock ∧ some k_ ≠ (.slice Ao63 t347.length co63 : Value).ownBlock ∧ some k_ ≠ (.slice Ao96 t358.length co96 : Value).ownBlock ∧ some k_ ≠ (.slice Ao97 t361.length co97 : Value).ownBlock ∧ k_ ≠ gb330 ∧ k_ ≠ gb350) ho1 (fun k_ hk_ => ⟨hk_.2, Or.elim hk_.1 (fun hs_ => fun e_ => Nat.not_le.2 hs_ (Kd.R_base HO_351001.out k_ e_.symm)) (fun hn_ => (Kd.fresh' (Kd.R_lt (by (with_reducible repeat (first | apply Kd.R_alloc | apply Kd.R_drewN | apply Kd.R_drew)); exact HO_351001.out)) k_ hn_)), Or.elim hk_.1 (fun hs_ => fun e_ => Nat.not_le.2 hs_ (Kd.N_base HO_351002.out k_ e_.symm)) (fun hn_ => (Kd.fresh' (Kd.N_lt (by (with_reducible repeat (first | apply Kd.N_alloc | apply Kd.N_drewN | apply Kd.N_drew)); exact HO_351002.out)) k_ hn_)), Or.elim hk_.1 (fun hs_ => fun e_ => Nat.not_le.2 hs_ (Kd.R_base HO360.out k_ e_.symm)) (fun hn_ => (Kd.fresh' (Kd.R_lt (by (with_reducible repeat (first | apply Kd.R_alloc | apply Kd.R_drewN | apply Kd.R_drew)); exact HO360.out)) k_ hn_)), Or.elim hk_.1 (fun hs_ => fun e_ => Nat.not_le.2 hs_ (Kd.N_base HO363.out k_ e_.symm)) (fun hn_ => (Kd.fresh' (Kd.N_lt (by (with_reducible repeat (first | apply Kd.N_alloc | apply Kd.N_drewN | apply Kd.N_drew)); exact HO363.out)) k_ hn_)), Or.elim hk_.1 (fun hs_ => fun e_ => Nat.not_le.2 hs_ (by rw [e_]; exact GW330.out)) (fun hn_ => (Kd.freshB (g := gb330) (o := .cells #[.int .i64 3, .int .i64 0, .int .i64 0, .int .i64 0, .int .i64 0, .slice A0 y322.length c0] 27 (0, 0)) (by (with_reducible repeat (first | refine blk_drewN ?_ _ | refine blk_drew ?_ | refine blk_alloc ?_ _)); exact BK330.out) k_ hn_)), Or.elim hk_.1 (fun hs_ => fun e_ => Nat.not_le.2 hs_ (by rw [e_]; exact GW350.out)) (fun hn_ => (Kd.freshB (g := gb350) (o := .cells #[.int .u64 t343, .slice Ao62 t344.length co62, .slice Ao63 t347.length co63] 46 (0, 0)) (by (with_reducible repeat (first | refine blk_drewN ?_ _ | refine blk_drew ?_ | refine blk_alloc ?_ _)); exact BK350.out) k_ hn_))⟩)) (below_size (by repeat (first | (with_reducible first | exact HB.out | apply below_alloc | apply pw_below_drewN | apply below_drew1 | refine below_set ?_ GE330.out | refine below_set ?_ GE350.out) | exact HB.out))))
                                  have n6_ := Aside0.mk (blk_below (g := gb330) (o := .cells #[.int .i64 3, .int .i64 0, .int .i64 0, .int .i64 0, .int .i64 0, .slice A0 y322.length c0] 27 (0, 0)) (by (with_reducible repeat (first | refine blk_drewN ?_ _ | refine blk_drew ?_ | refine blk_alloc ?_ _)); exact BK330.out) hb)
                                  have n7_ := Aside0.mk (blk_below (g := gb350) (o := .cells #[.int .u64 t343, .slice Ao62 t344.length co62, .slice Ao63 t347.length co63] 46 (0, 0)) (by (with_reducible repeat (first | refine blk_drewN ?_ _ | refine blk_drew ?_ | refine blk_alloc ?_ _)); exact BK350.out) hb)
                                  have n8_ := Aside0.mk (below_step (by repeat (first | (with_reducible first | exact HB.out | apply below_alloc | apply pw_below_drewN | apply below_drew1 | refine below_set ?_ GE330.out | refine below_set ?_ GE350.out) | exact HB.out)) hb)
                                  clear HO_351001
                                  clear HO_351002
                                  clear HO360
                                  clear HO363
                                  clear BK330
                                  clear BK350
                                  clear HB
                                  have HO_351001 := n0_
                                  have HO_351002 := n1_
                                  have HO360 := n2_
                                  have HO363 := n3_
                                  have HO372 := n4_
                                  have HO375 := n5_
                                  have BK330 := n6_
                                  have BK350 := n7_
                                  have HB := n8_
                                  clear n0_ n1_ n2_ n3_ n4_ n5_ n6_ n7_ n8_
                                  (try clear hb)
                                  (try clear hb2)
                                  (try clear hk)
                                  (try clear hi)
                                  (try clear ho0)
                                  (try clear ho1)
                                  obtain ⟨Ao100, co100, eo100⟩ := Kd.R_slice HO372.out
                                  (first | subst eo100 | (injection eo100 with f1_ f2_ f3_; have f4_ := f1_.symm; have f5_ := f3_.symm; clear f1_ f2_ f3_; subst f4_; subst f5_))
                                  obtain ⟨Ao101, co101, eo101⟩ := Kd.N_slice HO375.out
                                  (first | subst eo101 | (injection eo101 with f1_ f2_ f3_; have f4_ := f1_.symm; have f5_ := f3_.symm; clear f1_ f2_ f3_; subst f4_; subst f5_))
                                  refine hK.out _ _ ⟨(blk_cell BK330.out 0).trans rfl, (blk_cell BK330.out 1).trans rfl, (blk_cell BK330.out 2).trans rfl, (blk_cell BK330.out 3).trans rfl, (blk_cell BK330.out 4).trans rfl, (blk_cell BK330.out 5).trans rfl⟩ (fun hHeld => ?_)
                                  clear hK K
                                  refine norm_ (a' := ?_) ?_ ?_
                                  rotate_left
                                  · show Act.put _ (some 99) _ = _
                                    simp only [Act.put, List.setIfInBounds_toArray, List.set_cons_zero, List.set_cons_succ, i64_w, i32_w]
                                    rfl
                                  refine one_ (i := 15) (N := some 100) #[true, true, true, true, true, true, true, true, true, true, true, true, true, true, true, true, false, false, false] rfl rfl (one_of HT_.out (by kernel_rfl)) (by decide) (fun K hK => ?_)
                                  refine goes_ Try.func32 (by kernel_rfl) rfl #[.agg #[.int .i64 3, .int .i64 0, .int .i64 0, .int .i64 0, .int .i64 0, .slice A0 y322.length c0], .agg #[.int .u64 t369, .slice Ao100 t370.length co100, .slice Ao101 t373.length co101]] (by rfl) rfl rfl (by (try simp only [List.map_toArray, List.map_cons, List.map_nil]); first | done | rfl | (simp only [List.length_drop, List.length_take]; rfl)) ?_
                                  with_reducible refine (value_Size.calls kj56 3 0 0 0 0 _ _ y322 t369 _ _ t370 _ _ t373 t376 _ ?side1 ?side2 ?side3 ?side4 ?side5 ?side6 A92.out).mono ?_
                                  (case side1 => repeat (first | exact (Kd.C_below HR325.out HB.out) | (with_reducible refine Kd.C_alloc ?_ _) | (with_reducible refine Kd.C_drewN ?_ _) | (with_reducible refine Kd.C_drew ?_)))
                                  (case side2 => exact HC325.out)
                                  (case side3 => repeat (first | exact (Kd.R_reads' HO372.out).2.2 | (with_reducible refine Kd.C_alloc ?_ _) | (with_reducible refine Kd.C_drewN ?_ _) | (with_reducible refine Kd.C_drew ?_)))
                                  (case side4 => exact (Kd.R_reads' HO372.out).2.1)
                                  (case side5 => repeat (first | exact (Kd.N_reads' HO375.out).2.2 | (with_reducible refine Kd.C_alloc ?_ _) | (with_reducible refine Kd.C_drewN ?_ _) | (with_reducible refine Kd.C_drew ?_)))
                                  (case side6 => exact (Kd.N_reads' HO375.out).2.1)
                                  rintro e w102 ⟨rfl, hb⟩
                                  refine ⟨_, rfl, ?_⟩
                                  have n0_ := Aside0.mk (Kd.R_below (by (with_reducible repeat (first | apply Kd.R_alloc | apply Kd.R_drewN | apply Kd.R_drew)); exact HO_351001.out) hb)
                                  have n1_ := Aside0.mk (Kd.N_below (by (with_reducible repeat (first | apply Kd.N_alloc | apply Kd.N_drewN | apply Kd.N_drew)); exact HO_351002.out) hb)
                                  have n2_ := Aside0.mk (Kd.R_below (by (with_reducible repeat (first | apply Kd.R_alloc | apply Kd.R_drewN | apply Kd.R_drew)); exact HO360.out) hb)
                                  have n3_ := Aside0.mk (Kd.N_below (by (with_reducible repeat (first | apply Kd.N_alloc | apply Kd.N_drewN | apply Kd.N_drew)); exact HO363.out) hb)
                                  have n4_ := Aside0.mk (Kd.R_below (by (with_reducible repeat (first | apply Kd.R_alloc | apply Kd.R_drewN | apply Kd.R_drew)); exact HO372.out) hb)
                                  have n5_ := Aside0.mk (Kd.N_below (by (with_reducible repeat (first | apply Kd.N_alloc | apply Kd.N_drewN | apply Kd.N_drew)); exact HO375.out) hb)
                                  have n6_ := Aside0.mk (blk_below (g := gb330) (o := .cells #[.int .i64 3, .int .i64 0, .int .i64 0, .int .i64 0, .int .i64 0, .slice A0 y322.length c0] 27 (0, 0)) (by (with_reducible repeat (first | refine blk_drewN ?_ _ | refine blk_drew ?_ | refine blk_alloc ?_ _)); exact BK330.out) hb)
                                  have n7_ := Aside0.mk (blk_below (g := gb350) (o := .cells #[.int .u64 t343, .slice Ao62 t344.length co62, .slice Ao63 t347.length co63] 46 (0, 0)) (by (with_reducible repeat (first | refine blk_drewN ?_ _ | refine blk_drew ?_ | refine blk_alloc ?_ _)); exact BK350.out) hb)
                                  have n8_ := Aside0.mk (below_step (by repeat (first | (with_reducible first | exact HB.out | apply below_alloc | apply pw_below_drewN | apply below_drew1 | refine below_set ?_ GE330.out | refine below_set ?_ GE350.out) | exact HB.out)) hb)
                                  clear HO_351001
                                  clear HO_351002
                                  clear HO360
                                  clear HO363
                                  clear HO372
                                  clear HO375
                                  clear BK330
                                  clear BK350
                                  clear HB
                                  have HO_351001 := n0_
                                  have HO_351002 := n1_
                                  have HO360 := n2_
                                  have HO363 := n3_
                                  have HO372 := n4_
                                  have HO375 := n5_
                                  have BK330 := n6_
                                  have BK350 := n7_
                                  have HB := n8_
                                  clear n0_ n1_ n2_ n3_ n4_ n5_ n6_ n7_ n8_
                                  (try clear hb)
                                  (try clear hb2)
                                  (try clear hk)
                                  (try clear hi)
                                  refine hK.out _ _ ⟨(blk_cell BK330.out 0).trans rfl, (blk_cell BK330.out 1).trans rfl, (blk_cell BK330.out 2).trans rfl, (blk_cell BK330.out 3).trans rfl, (blk_cell BK330.out 4).trans rfl, (blk_cell BK330.out 5).trans rfl⟩ (fun hHeld => ?_)
                                  clear hK K
                                  refine norm_ (a' := ?_) ?_ ?_
                                  rotate_left
                                  · show Act.put _ (some 100) _ = _
                                    simp only [Act.put, List.setIfInBounds_toArray, List.set_cons_zero, List.set_cons_succ, i64_w, i32_w]
                                    rfl
                                  refine pure_ (i := 16) (N := some 101) (v := ?_) (a' := ?_) #[true, true, true, true, true, true, true, true, true, true, true, true, true, true, true, true, true, false, false] rfl rfl (any_of HT_.out (by kernel_rfl)) (fun _ _ _ h => h) (Or.inl ⟨by rfl, ?_⟩) ?_ ?_
                                  rotate_left
                                  · intro w'
                                    go_simp
                                    with_reducible rfl
                                  rotate_left
                                  · simp only [Act.put, List.setIfInBounds_toArray, List.set_cons_zero, List.set_cons_succ, i64_w, i32_w]
                                    rfl
                                  refine pure_ (i := 17) (N := some 102) (v := ?_) (a' := ?_) #[true, true, true, true, true, true, true, true, true, true, true, true, true, true, true, true, true, true, false] rfl rfl (any_of HT_.out (by kernel_rfl)) (fun _ _ _ h => h) (Or.inl ⟨by rfl, ?_⟩) ?_ ?_
                                  rotate_left
                                  · intro w'
                                    go_simp
                                    with_reducible rfl
                                  rotate_left
                                  · simp only [Act.put, List.setIfInBounds_toArray, List.set_cons_zero, List.set_cons_succ, i64_w, i32_w]
                                    rfl
                                  refine pure_ (i := 18) (N := some 4) (v := ?_) (a' := ?_) #[true, true, true, true, true, true, true, true, true, true, true, true, true, true, true, true, true, true, true] rfl rfl (any_of HT_.out (by kernel_rfl)) (fun _ _ _ h => h) (Or.inl ⟨by rfl, ?_⟩) ?_ ?_
                                  rotate_left
                                  · intro w'
                                    go_simp
                                    with_reducible rfl
                                  rotate_left
                                  · simp only [Act.put, List.setIfInBounds_toArray, List.set_cons_zero, List.set_cons_succ, i64_w, i32_w]
                                    rfl
                                  refine done_ (done_of HT_.out (by kernel_rfl)) ?_
                                  try go_wp2
                                  go_ret
                                  exact ⟨by first | rfl | (simp [errW_none, errW_some] <;> rfl) | (simp only [← hji3, ← hji4, ← hji85]; first | rfl | (simp [errW_none, errW_some] <;> rfl)) | (simp [*, errW_none, errW_some] <;> rfl), by repeat (first | (with_reducible first | exact HB.out | apply below_alloc | apply pw_below_drewN | apply below_drew1 | refine below_set ?_ GE330.out | refine below_set ?_ GE350.out) | exact HB.out)⟩
                                · rw [if_neg c90] at H
                                  have c90b0 : (t364 == 15) = false := beq_eq_false_iff_ne.mpr c90
                                  have c90b1 : (t364 != 15) = true := bne_iff_ne.mpr c90
                                  obtain rfl := Option.some.inj H
                                  try go_wp2
                                  have n0_ := Aside0.mk (Kd.R_drew HO_351001.out)
                                  have n1_ := Aside0.mk (Kd.N_drew HO_351002.out)
                                  have n2_ := Aside0.mk (blk_drew BK330.out)
                                  have n3_ := Aside0.mk (blk_drew BK350.out)
                                  have n4_ := Aside0.mk (below_drew1 HB.out)
                                  clear HO_351001
                                  clear HO_351002
                                  clear BK330
                                  clear BK350
                                  clear HB
                                  have HO_351001 := n0_
                                  have HO_351002 := n1_
                                  have BK330 := n2_
                                  have BK350 := n3_
                                  have HB := n4_
                                  clear n0_ n1_ n2_ n3_ n4_
                                  have q104 : ((ji85) : Int) ≤ ((y326.length : Int) : Int) := of_decide_eq_true (by first | (with_reducible assumption) | assumption)
                                  obtain ⟨i0104, hi0104, _, hsz104, _⟩ := info_parts info46
                                  have hroom104 : y326.length ≤ c1 := HC329.out
                                  have hC104 : Kd.C k46 _ A1 y326.length y326 := HR329.out
                                  have hcut104 := cut_to (P := Try.prog) 44 46 .i64 Try.underlying44 hi0104 A1 y326.length c1 (ji85) (of_decide_eq_true (by first | (with_reducible assumption) | assumption)) q104 hroom104
                                  have hr104 := Kd.C_take (m := ((ji85) : Int).toNat) hC104 (by omega)
                                  have hy104 : y353.length = ((ji85) : Int).toNat := (by rw [Ny353.out, List.length_take]; omega)
                                  rw [← Ny353.out] at hr104
                                  rw [← hy104] at hcut104
                                  have HR356 := Aside0.mk hr104
                                  have HC356 := Aside0.mk (show y353.length ≤ c1 from by omega)
                                  clear hr104 hC104 hroom104 hi0104 hsz104
                                  have KY104 := Aside0.mk hy104
                                  clear hy104
                                  replace q104 := eq_true q104
                                  refine start_ (n := 19) (S := fun w' => w'.cell? ⟨gb330, 0, none⟩ = some (.int .i64 3) ∧ w'.cell? ⟨gb330, 1, none⟩ = some (.int .i64 0) ∧ w'.cell? ⟨gb330, 2, none⟩ = some (.int .i64 0) ∧ w'.cell? ⟨gb330, 3, none⟩ = some (.int .i64 0) ∧ w'.cell? ⟨gb330, 4, none⟩ = some (.int .i64 0) ∧ w'.cell? ⟨gb330, 5, none⟩ = some (.slice A0 y322.length c0)) (ds := []) #[false, false, false, false, false, false, false, false, false, false, false, false, false, false, false, false, false, false, false] (by kernel_rfl) rfl rfl ⟨(blk_cell BK330.out 0).trans rfl, (blk_cell BK330.out 1).trans rfl, (blk_cell BK330.out 2).trans rfl, (blk_cell BK330.out 3).trans rfl, (blk_cell BK330.out 4).trans rfl, (blk_cell BK330.out 5).trans rfl⟩ (fun hHeld => ?_); refine with_tabW passepartoutlaw05_ValueRows.tab20 passepartoutlaw05_ValueRows.bits20 (fun HT_ HW_ => ?_)
                                  generalize wc.drew = w103 at HO_351001 HO_351002 BK330 BK350 HB HR356 hHeld ⊢
                                  refine pure_ (i := 1) (N := some 86) (v := ?_) (a' := ?_) #[false, true, false, false, false, false, false, false, false, false, false, false, false, false, false, false, false, false, false] rfl rfl (any_of HT_.out (by kernel_rfl)) (fun _ _ _ h => h) (Or.inl ⟨by rfl, ?_⟩) ?_ ?_
                                  rotate_left
                                  · intro w'
                                    go_simp
                                    with_reducible rfl
                                  rotate_left
                                  · simp only [Act.put, List.setIfInBounds_toArray, List.set_cons_zero, List.set_cons_succ, i64_w, i32_w]
                                    rfl
                                  refine pure_ (i := 2) (N := some 87) (v := ?_) (a' := ?_) #[false, true, true, false, false, false, false, false, false, false, false, false, false, false, false, false, false, false, false] rfl rfl (any_of HT_.out (by kernel_rfl)) (fun _ _ _ h => h) (Or.inl ⟨by rfl, ?_⟩) ?_ ?_
                                  rotate_left
                                  · intro w'
                                    go_simp
                                    with_reducible rfl
                                  rotate_left
                                  · simp only [Act.put, List.setIfInBounds_toArray, List.set_cons_zero, List.set_cons_succ, i64_w, i32_w]
                                    rfl
                                  refine pure_ (i := 3) (N := some 88) (v := ?_) (a' := ?_) #[false, true, true, true, false, false, false, false, false, false, false, false, false, false, false, false, false, false, false] rfl rfl (any_of HT_.out (by kernel_rfl)) (fun _ _ _ h => h) (Or.inl ⟨by rfl, ?_⟩) ?_ ?_
                                  rotate_left
                                  · intro w'
                                    go_simp
                                    with_reducible rfl
                                  rotate_left
                                  · simp only [Act.put, List.setIfInBounds_toArray, List.set_cons_zero, List.set_cons_succ, i64_w, i32_w]
                                    rfl
                                  refine pure_ (i := 4) (N := some 89) (v := ?_) (a' := ?_) #[false, true, true, true, true, false, false, false, false, false, false, false, false, false, false, false, false, false, false] rfl rfl (any_of HT_.out (by kernel_rfl)) (fun _ _ _ h => h) (Or.inl ⟨by rfl, ?_⟩) ?_ ?_
                                  rotate_left
                                  · intro w'
                                    go_simp
                                    with_reducible rfl
                                  rotate_left
                                  · simp only [Act.put, List.setIfInBounds_toArray, List.set_cons_zero, List.set_cons_succ, i64_w, i32_w]
                                    rfl
                                  refine take_ (i := 0) (N := some 85) (v := ?_) (a' := ?_) #[true, true, true, true, true, false, false, false, false, false, false, false, false, false, false, false, false, false, false] rfl rfl (take_ofW HT_.out HW_.out (by kernel_rfl)) (fun _ _ _ h => h) (Or.inl ⟨by rfl, ?_⟩) hHeld ?_ ?_
                                  rotate_left
                                  · rintro w' ⟨s0, s1, s2, s3, s4, s5⟩
                                    go_simp
                                    with_reducible rfl
                                  rotate_left
                                  · simp only [Act.put, List.setIfInBounds_toArray, List.set_cons_zero, List.set_cons_succ, i64_w, i32_w]
                                    rfl
                                  refine one_ (i := 5) (N := some 90) #[true, true, true, true, true, true, false, false, false, false, false, false, false, false, false, false, false, false, false] rfl rfl (one_of HT_.out (by kernel_rfl)) (by decide) (fun K hK => ?_)
                                  refine goes_ Try.func36 (by kernel_rfl) rfl #[.slice A1 y353.length c1] (by rfl) rfl rfl (by (try simp only [List.map_toArray, List.map_cons, List.map_nil]); first | done | rfl | (simp only [List.length_drop, List.length_take]; rfl)) ?_
                                  with_reducible refine (value_List.calls (fun k_ => k_ < w.heap.size) _ _ y353 t357 t358 t361 _ ?side1 A88.out).mono ?_
                                  (case side1 => exact Kd.V_mk HC356.out (Kd.F_below (Kd.C_F k46_heap HR356.out) (by repeat (first | (with_reducible first | exact HB.out | apply below_alloc | apply pw_below_drewN | apply below_drew1 | refine below_set ?_ GE330.out | refine below_set ?_ GE350.out) | exact HB.out))))
                                  rintro e w105 ⟨v359, v362, rfl, ho0, ho1, hb⟩
                                  refine ⟨_, rfl, ?_⟩
                                  have n0_ := Aside0.mk (Kd.R_elder' (by (with_reducible repeat (first | apply Kd.R_alloc | apply Kd.R_drewN | apply Kd.R_drew)); exact HO_351001.out) (Kd.R_base ho0) hb)
                                  have n1_ := Aside0.mk (Kd.N_mono (Kd.N_told (Kd.N_told (Kd.N_old (by (with_reducible repeat (first | apply Kd.N_alloc | apply Kd.N_drewN | apply Kd.N_drew)); exact HO_351002.out) hb) (Kd.R_base ho0)) (by first | exact Kd.N_base ho1 | exact Kd.R_base ho1)) (fun _ h_ => h_.1))
                                  have n2_ := Aside0.mk (Kd.R_lower (Kd.R_new' (Kd.R_mono (ok' := fun k_ => True) ho0 (fun _ hk_ => trivial)) (Kd.R_lt (by (with_reducible repeat (first | apply Kd.R_alloc | apply Kd.R_drewN | apply Kd.R_drew)); exact HO_351001.out))) (below_size (by repeat (first | (with_reducible first | exact HB.out | apply below_alloc | apply pw_below_drewN | apply below_drew1 | refine below_set ?_ GE330.out | refine below_set ?_ GE350.out) | exact HB.out))))
                                  have n3_ := Aside0.mk (Kd.N_lower (Kd.N_mono (ok' := fun k_ => some k_ ≠ (v359 : Value).ownBlock ∧ some k_ ≠ (.slice Ao62 t344.length co62 : Value).ownBlock ∧ some k_ ≠ (.slice Ao63 t347.length co63 : Value).ownBlock ∧ k_ ≠ gb330 ∧ k_ ≠ gb350) ho1 (fun k_ hk_ => ⟨hk_.2, Or.elim hk_.1 (fun hs_ => fun e_ => Nat.not_le.2 hs_ (Kd.R_base HO_351001.out k_ e_.symm)) (fun hn_ => (Kd.fresh' (Kd.R_lt (by (with_reducible repeat (first | apply Kd.R_alloc | apply Kd.R_drewN | apply Kd.R_drew)); exact HO_351001.out)) k_ hn_)), Or.elim hk_.1 (fun hs_ => fun e_ => Nat.not_le.2 hs_ (Kd.N_base HO_351002.out k_ e_.symm)) (fun hn_ => (Kd.fresh' (Kd.N_lt (by (with_reducible repeat (first | apply Kd.N_alloc | apply Kd.N_drewN | apply Kd.N_drew)); exact HO_351002.out)) k_ hn_)), Or.elim hk_.1 (fun hs_ => fun e_ => Nat.not_le.2 hs_ (by rw [e_]; exact GW330.out)) (fun hn_ => (Kd.freshB (g := gb330) (o := .cells #[.int .i64 3, .int .i64 0, .int .i64 0, .int .i64 0, .int .i64 0, .slice A0 y322.length c0] 27 (0, 0)) (by (with_reducible repeat (first | refine blk_drewN ?_ _ | refine blk_drew ?_ | refine blk_alloc ?_ _)); exact BK330.out) k_ hn_)), Or.elim hk_.1 (fun hs_ => fun e_ => Nat.not_le.2 hs_ (by rw [e_]; exact GW350.out)) (fun hn_ => (Kd.freshB (g := gb350) (o := .cells #[.int .u64 t343, .slice Ao62 t344.length co62, .slice Ao63 t347.length co63] 46 (0, 0)) (by (with_reducible repeat (first | refine blk_drewN ?_ _ | refine blk_drew ?_ | refine blk_alloc ?_ _)); exact BK350.out) k_ hn_))⟩)) (below_size (by repeat (first | (with_reducible first | exact HB.out | apply below_alloc | apply pw_below_drewN | apply below_drew1 | refine below_set ?_ GE330.out | refine below_set ?_ GE350.out) | exact HB.out))))
                                  have n4_ := Aside0.mk (blk_below (g := gb330) (o := .cells #[.int .i64 3, .int .i64 0, .int .i64 0, .int .i64 0, .int .i64 0, .slice A0 y322.length c0] 27 (0, 0)) (by (with_reducible repeat (first | refine blk_drewN ?_ _ | refine blk_drew ?_ | refine blk_alloc ?_ _)); exact BK330.out) hb)
                                  have n5_ := Aside0.mk (blk_below (g := gb350) (o := .cells #[.int .u64 t343, .slice Ao62 t344.length co62, .slice Ao63 t347.length co63] 46 (0, 0)) (by (with_reducible repeat (first | refine blk_drewN ?_ _ | refine blk_drew ?_ | refine blk_alloc ?_ _)); exact BK350.out) hb)
                                  have n6_ := Aside0.mk (below_step (by repeat (first | (with_reducible first | exact HB.out | apply below_alloc | apply pw_below_drewN | apply below_drew1 | refine below_set ?_ GE330.out | refine below_set ?_ GE350.out) | exact HB.out)) hb)
                                  clear HO_351001
                                  clear HO_351002
                                  clear BK330
                                  clear BK350
                                  clear HB
                                  have HO_351001 := n0_
                                  have HO_351002 := n1_
                                  have HO360 := n2_
                                  have HO363 := n3_
                                  have BK330 := n4_
                                  have BK350 := n5_
                                  have HB := n6_
                                  clear n0_ n1_ n2_ n3_ n4_ n5_ n6_
                                  (try clear hb)
                                  (try clear hb2)
                                  (try clear hk)
                                  (try clear hi)
                                  (try clear ho0)
                                  (try clear ho1)
                                  obtain ⟨Ao106, co106, eo106⟩ := Kd.R_slice HO360.out
                                  (first | subst eo106 | (injection eo106 with f1_ f2_ f3_; have f4_ := f1_.symm; have f5_ := f3_.symm; clear f1_ f2_ f3_; subst f4_; subst f5_))
                                  obtain ⟨Ao107, co107, eo107⟩ := Kd.N_slice HO363.out
                                  (first | subst eo107 | (injection eo107 with f1_ f2_ f3_; have f4_ := f1_.symm; have f5_ := f3_.symm; clear f1_ f2_ f3_; subst f4_; subst f5_))
                                  refine hK.out _ _ ⟨(blk_cell BK330.out 0).trans rfl, (blk_cell BK330.out 1).trans rfl, (blk_cell BK330.out 2).trans rfl, (blk_cell BK330.out 3).trans rfl, (blk_cell BK330.out 4).trans rfl, (blk_cell BK330.out 5).trans rfl⟩ (fun hHeld => ?_)
                                  clear hK K
                                  refine norm_ (a' := ?_) ?_ ?_
                                  rotate_left
                                  · show Act.put _ (some 90) _ = _
                                    simp only [Act.put, List.setIfInBounds_toArray, List.set_cons_zero, List.set_cons_succ, i64_w, i32_w]
                                    rfl
                                  refine one_ (i := 6) (N := some 91) #[true, true, true, true, true, true, true, false, false, false, false, false, false, false, false, false, false, false, false] rfl rfl (one_of HT_.out (by kernel_rfl)) (by decide) (fun K hK => ?_)
                                  refine goes_ Try.func33 (by kernel_rfl) rfl #[.agg #[.int .i64 3, .int .i64 0, .int .i64 0, .int .i64 0, .int .i64 0, .slice A0 y322.length c0], .agg #[.int .u64 t357, .slice Ao106 t358.length co106, .slice Ao107 t361.length co107]] (by rfl) rfl rfl (by (try simp only [List.map_toArray, List.map_cons, List.map_nil]); first | done | rfl | (simp only [List.length_drop, List.length_take]; rfl)) ?_
                                  with_reducible refine (value_Fits.calls kj56 3 0 0 0 0 _ _ y322 t357 _ _ t358 _ _ t361 t364 _ ?side1 ?side2 ?side3 ?side4 ?side5 ?side6 A89.out).mono ?_
                                  (case side1 => repeat (first | exact (Kd.C_below HR325.out HB.out) | (with_reducible refine Kd.C_alloc ?_ _) | (with_reducible refine Kd.C_drewN ?_ _) | (with_reducible refine Kd.C_drew ?_)))
                                  (case side2 => exact HC325.out)
                                  (case side3 => repeat (first | exact (Kd.R_reads' HO360.out).2.2 | (with_reducible refine Kd.C_alloc ?_ _) | (with_reducible refine Kd.C_drewN ?_ _) | (with_reducible refine Kd.C_drew ?_)))
                                  (case side4 => exact (Kd.R_reads' HO360.out).2.1)
                                  (case side5 => repeat (first | exact (Kd.N_reads' HO363.out).2.2 | (with_reducible refine Kd.C_alloc ?_ _) | (with_reducible refine Kd.C_drewN ?_ _) | (with_reducible refine Kd.C_drew ?_)))
                                  (case side6 => exact (Kd.N_reads' HO363.out).2.1)
                                  rintro e w108 ⟨rfl, hb⟩
                                  refine ⟨_, rfl, ?_⟩
                                  have n0_ := Aside0.mk (Kd.R_below (by (with_reducible repeat (first | apply Kd.R_alloc | apply Kd.R_drewN | apply Kd.R_drew)); exact HO_351001.out) hb)
                                  have n1_ := Aside0.mk (Kd.N_below (by (with_reducible repeat (first | apply Kd.N_alloc | apply Kd.N_drewN | apply Kd.N_drew)); exact HO_351002.out) hb)
                                  have n2_ := Aside0.mk (Kd.R_below (by (with_reducible repeat (first | apply Kd.R_alloc | apply Kd.R_drewN | apply Kd.R_drew)); exact HO360.out) hb)
                                  have n3_ := Aside0.mk (Kd.N_below (by (with_reducible repeat (first | apply Kd.N_alloc | apply Kd.N_drewN | apply Kd.N_drew)); exact HO363.out) hb)
                                  have n4_ := Aside0.mk (blk_below (g := gb330) (o := .cells #[.int .i64 3, .int .i64 0, .int .i64 0, .int .i64 0, .int .i64 0, .slice A0 y322.length c0] 27 (0, 0)) (by (with_reducible repeat (first | refine blk_drewN ?_ _ | refine blk_drew ?_ | refine blk_alloc ?_ _)); exact BK330.out) hb)
                                  have n5_ := Aside0.mk (blk_below (g := gb350) (o := .cells #[.int .u64 t343, .slice Ao62 t344.length co62, .slice Ao63 t347.length co63] 46 (0, 0)) (by (with_reducible repeat (first | refine blk_drewN ?_ _ | refine blk_drew ?_ | refine blk_alloc ?_ _)); exact BK350.out) hb)
                                  have n6_ := Aside0.mk (below_step (by repeat (first | (with_reducible first | exact HB.out | apply below_alloc | apply pw_below_drewN | apply below_drew1 | refine below_set ?_ GE330.out | refine below_set ?_ GE350.out) | exact HB.out)) hb)
                                  clear HO_351001
                                  clear HO_351002
                                  clear HO360
                                  clear HO363
                                  clear BK330
                                  clear BK350
                                  clear HB
                                  have HO_351001 := n0_
                                  have HO_351002 := n1_
                                  have HO360 := n2_
                                  have HO363 := n3_
                                  have BK330 := n4_
                                  have BK350 := n5_
                                  have HB := n6_
                                  clear n0_ n1_ n2_ n3_ n4_ n5_ n6_
                                  (try clear hb)
                                  (try clear hb2)
                                  (try clear hk)
                                  (try clear hi)
                                  refine hK.out _ _ ⟨(blk_cell BK330.out 0).trans rfl, (blk_cell BK330.out 1).trans rfl, (blk_cell BK330.out 2).trans rfl, (blk_cell BK330.out 3).trans rfl, (blk_cell BK330.out 4).trans rfl, (blk_cell BK330.out 5).trans rfl⟩ (fun hHeld => ?_)
                                  clear hK K
                                  refine norm_ (a' := ?_) ?_ ?_
                                  rotate_left
                                  · show Act.put _ (some 91) _ = _
                                    simp only [Act.put, List.setIfInBounds_toArray, List.set_cons_zero, List.set_cons_succ, i64_w, i32_w]
                                    rfl
                                  refine pure_ (i := 7) (N := some 92) (v := ?_) (a' := ?_) #[true, true, true, true, true, true, true, true, false, false, false, false, false, false, false, false, false, false, false] rfl rfl (any_of HT_.out (by kernel_rfl)) (fun _ _ _ h => h) (Or.inl ⟨by rfl, ?_⟩) ?_ ?_
                                  rotate_left
                                  · intro w'
                                    go_simp
                                    with_reducible rfl
                                  rotate_left
                                  · simp only [Act.put, List.setIfInBounds_toArray, List.set_cons_zero, List.set_cons_succ, i64_w, i32_w]
                                    rfl
                                  refine pure_ (i := 8) (N := some 93) (v := ?_) (a' := ?_) #[true, true, true, true, true, true, true, true, true, false, false, false, false, false, false, false, false, false, false] rfl rfl (any_of HT_.out (by kernel_rfl)) (fun _ _ _ h => h) (Or.inl ⟨by rfl, ?_⟩) ?_ ?_
                                  rotate_left
                                  · intro w'
                                    go_simp
                                    with_reducible rfl
                                  rotate_left
                                  · simp only [Act.put, List.setIfInBounds_toArray, List.set_cons_zero, List.set_cons_succ, i64_w, i32_w]
                                    rfl
                                  refine pure_ (i := 9) (N := some 94) (v := undef) (a' := ?_) #[true, true, true, true, true, true, true, true, true, true, false, false, false, false, false, false, false, false, false] rfl rfl (any_of HT_.out (by kernel_rfl)) (fun _ _ _ h => h) (Or.inr ⟨by rfl, rfl⟩) ?_ ?_
                                  rotate_left
                                  · simp only [Act.put, List.setIfInBounds_toArray, List.set_cons_zero, List.set_cons_succ, i64_w, i32_w]
                                    rfl
                                  refine pure_ (i := 10) (N := some 95) (v := undef) (a' := ?_) #[true, true, true, true, true, true, true, true, true, true, true, false, false, false, false, false, false, false, false] rfl rfl (any_of HT_.out (by kernel_rfl)) (fun _ _ _ h => h) (Or.inr ⟨by rfl, rfl⟩) ?_ ?_
                                  rotate_left
                                  · simp only [Act.put, List.setIfInBounds_toArray, List.set_cons_zero, List.set_cons_succ, i64_w, i32_w]
                                    rfl
                                  refine pure_ (i := 11) (N := some 96) (v := undef) (a' := ?_) #[true, true, true, true, true, true, true, true, true, true, true, true, false, false, false, false, false, false, false] rfl rfl (any_of HT_.out (by kernel_rfl)) (fun _ _ _ h => h) (Or.inr ⟨by rfl, rfl⟩) ?_ ?_
                                  rotate_left
                                  · simp only [Act.put, List.setIfInBounds_toArray, List.set_cons_zero, List.set_cons_succ, i64_w, i32_w]
                                    rfl
                                  refine pure_ (i := 12) (N := some 97) (v := undef) (a' := ?_) #[true, true, true, true, true, true, true, true, true, true, true, true, true, false, false, false, false, false, false] rfl rfl (any_of HT_.out (by kernel_rfl)) (fun _ _ _ h => h) (Or.inr ⟨by rfl, rfl⟩) ?_ ?_
                                  rotate_left
                                  · simp only [Act.put, List.setIfInBounds_toArray, List.set_cons_zero, List.set_cons_succ, i64_w, i32_w]
                                    rfl
                                  refine pure_ (i := 13) (N := some 98) (v := undef) (a' := ?_) #[true, true, true, true, true, true, true, true, true, true, true, true, true, true, false, false, false, false, false] rfl rfl (any_of HT_.out (by kernel_rfl)) (fun _ _ _ h => h) (Or.inr ⟨by rfl, rfl⟩) ?_ ?_
                                  rotate_left
                                  · simp only [Act.put, List.setIfInBounds_toArray, List.set_cons_zero, List.set_cons_succ, i64_w, i32_w]
                                    rfl
                                  refine pure_ (i := 14) (N := some 99) (v := undef) (a' := ?_) #[true, true, true, true, true, true, true, true, true, true, true, true, true, true, true, false, false, false, false] rfl rfl (any_of HT_.out (by kernel_rfl)) (fun _ _ _ h => h) (Or.inr ⟨by rfl, rfl⟩) ?_ ?_
                                  rotate_left
                                  · simp only [Act.put, List.setIfInBounds_toArray, List.set_cons_zero, List.set_cons_succ, i64_w, i32_w]
                                    rfl
                                  refine pure_ (i := 15) (N := some 100) (v := undef) (a' := ?_) #[true, true, true, true, true, true, true, true, true, true, true, true, true, true, true, true, false, false, false] rfl rfl (any_of HT_.out (by kernel_rfl)) (fun _ _ _ h => h) (Or.inr ⟨by rfl, rfl⟩) ?_ ?_
                                  rotate_left
                                  · simp only [Act.put, List.setIfInBounds_toArray, List.set_cons_zero, List.set_cons_succ, i64_w, i32_w]
                                    rfl
                                  refine pure_ (i := 16) (N := some 101) (v := undef) (a' := ?_) #[true, true, true, true, true, true, true, true, true, true, true, true, true, true, true, true, true, false, false] rfl rfl (any_of HT_.out (by kernel_rfl)) (fun _ _ _ h => h) (Or.inr ⟨by rfl, rfl⟩) ?_ ?_
                                  rotate_left
                                  · simp only [Act.put, List.setIfInBounds_toArray, List.set_cons_zero, List.set_cons_succ, i64_w, i32_w]
                                    rfl
                                  refine pure_ (i := 17) (N := some 102) (v := ?_) (a' := ?_) #[true, true, true, true, true, true, true, true, true, true, true, true, true, true, true, true, true, true, false] rfl rfl (any_of HT_.out (by kernel_rfl)) (fun _ _ _ h => h) (Or.inl ⟨by rfl, ?_⟩) ?_ ?_
                                  rotate_left
                                  · intro w'
                                    go_simp
                                    with_reducible rfl
                                  rotate_left
                                  · simp only [Act.put, List.setIfInBounds_toArray, List.set_cons_zero, List.set_cons_succ, i64_w, i32_w]
                                    rfl
                                  refine pure_ (i := 18) (N := some 4) (v := ?_) (a' := ?_) #[true, true, true, true, true, true, true, true, true, true, true, true, true, true, true, true, true, true, true] rfl rfl (any_of HT_.out (by kernel_rfl)) (fun _ _ _ h => h) (Or.inl ⟨by rfl, ?_⟩) ?_ ?_
                                  rotate_left
                                  · intro w'
                                    go_simp
                                    with_reducible rfl
                                  rotate_left
                                  · simp only [Act.put, List.setIfInBounds_toArray, List.set_cons_zero, List.set_cons_succ, i64_w, i32_w]
                                    rfl
                                  refine done_ (done_of HT_.out (by kernel_rfl)) ?_
                                  try go_wp2
                                  go_ret
                                  exact ⟨by first | rfl | (simp [errW_none, errW_some] <;> rfl) | (simp only [← hji3, ← hji4, ← hji85]; first | rfl | (simp [errW_none, errW_some] <;> rfl)) | (simp [*, errW_none, errW_some] <;> rfl), by repeat (first | (with_reducible first | exact HB.out | apply below_alloc | apply pw_below_drewN | apply below_drew1 | refine below_set ?_ GE330.out | refine below_set ?_ GE350.out) | exact HB.out)⟩
                              · rw [if_neg c87] at H
                                exact absurd H (by simp)
                            · rw [if_neg c86] at H
                              exact absurd H (by simp)
      · rw [if_neg c8] at H
        exact absurd H (by simp)
    · rw [if_neg c6] at H
      exact absurd H (by simp)
  · rw [if_neg c5] at H
    exact absurd H (by simp)

end Go.Proofs.Ytfcghajnnllmhaa.QP

namespace Go.Proofs.Ytfcghajnnllmhaa
open Go.RowKit YtfcghajnnllmhaaW.PrintWords

theorem alive5_f : QP.passepartoutlaw05_alive.f = some true := rfl
theorem vlist_f (l : List SV) (h : l.length ≤ 2000) : QP.value_List.f l = some (0, ([] : List Int), l) := by
  show (if l.length ≤ _ then some l else none).bind _ = _
  rw [if_pos (by omega)]
  rfl
/-- A part of a form of few levels. -/
theorem deep_part {f : Fm} (h : deepB 7 f = false) : deepB 8 f = false := by
  rw [dep_deep f 7 9 (by omega)] at h
  rw [dep_deep f 8 9 (by omega)]
  simp only [decide_eq_false_iff_not] at h ⊢
  omega
theorem wf_whole {P : List Fm} (hl : P.length ≤ 8) (h : ∀ x ∈ P, wfF x = true) : wfF (.mk ⟨3, 0, 0, 0, 0⟩ P) = true :=
  (wfF_mk _ _).2 ⟨⟨by simp [i64B], by simp [i64B], by simp [i64B], by simp [i64B], by simp [i64B]⟩, by omega, h⟩
theorem wf_list {L : List Vt} (hl : L.length ≤ 8) (h : ∀ x ∈ L, wfV x = true) : wfV (.mk ⟨0, []⟩ L) = true :=
  (wfV_mk _ _).2 ⟨by simp [u64B], by simp, by omega, h⟩
theorem alone_whole (n : Nat) : aloneB 3 0 0 n = true := by
  have e : fld 3 = 2 := by decide
  simp [aloneB, e]
/-- A row's answer, the form being right. -/
theorem fit_whole (P : List Fm) (L : List Vt) : fitR (.mk ⟨3, 0, 0, 0, 0⟩ P) (.mk ⟨0, []⟩ L) = if L.length ≠ P.length then (0, 15) else fitL (.mk ⟨3, 0, 0, 0, 0⟩ P) 0 0 L := by
  rw [fitR_mk]
  simp only []
  rw [if_neg (by rw [List.length_nil, alone_whole]; simp), if_neg (by decide), if_neg (by decide), if_neg (by decide), if_neg (by decide)]
  by_cases h : L.length = P.length
  · rw [if_neg (fun e => e.2 h), if_neg (fun e => e h)]
  · rw [if_pos ⟨trivial, h⟩, if_pos h]

theorem vrows_in (P : List Fm) (L : List Vt) (n : Nat) (hPl : P.length = n) (hLl : L.length = n) (hn : n ≤ 8) (hP : ∀ x ∈ P, wfF x = true) (hL : ∀ x ∈ L, wfV x = true)
    (hd : deepB 8 (.mk ⟨3, 0, 0, 0, 0⟩ P) = false) (hc : checkR (.mk ⟨3, 0, 0, 0, 0⟩ P) = 0) :
    Ev (fun k => QP.passepartoutlaw05_ValueRows.l0 k (L.map ofV) (n : Int) 0 0 (P.map ofF) (n : Int) 0 3 0 0 0 0 (P.map ofF)) true := by
  have hwF := wf_whole (by omega) hP
  have hwV := wf_list (by omega) hL
  obtain ⟨_, _, _, hch⟩ := check_ok hc
  have hPc : ∀ y ∈ P, checkR y = 0 := (hch (.inr rfl)).1
  have hPd : ∀ y ∈ P, deepB 8 y = false := by
    intro y hy
    refine deep_part ?_
    have h1 : (P.any (deepB 7)) = false := by
      have e : deepB 8 (.mk ⟨3, 0, 0, 0, 0⟩ P) = (partsF (.mk ⟨3, 0, 0, 0, 0⟩ P)).any (deepB 7) := by rw [deepB]
      rw [e] at hd
      exact hd
    rw [List.any_eq_false] at h1
    simpa using h1 y hy
  have hz : sizeR (.mk ⟨3, 0, 0, 0, 0⟩ P) (.mk ⟨0, []⟩ L) = if (fitL (.mk ⟨3, 0, 0, 0, 0⟩ P) 0 0 L).2 = 0 then ((fitL (.mk ⟨3, 0, 0, 0, 0⟩ P) 0 0 L).1, 0) else (0, (fitL (.mk ⟨3, 0, 0, 0, 0⟩ P) 0 0 L).2) := by
    have e1 : fitR (.mk ⟨3, 0, 0, 0, 0⟩ P) (.mk ⟨0, []⟩ L) = fitL (.mk ⟨3, 0, 0, 0, 0⟩ P) 0 0 L := by rw [fit_whole]; exact if_neg (by omega)
    rw [sizeR_eq hd hc, e1]
  have hF : Ev (fun k => QP.value_Fits.f k 3 0 0 0 0 (P.map ofF) 0 ([] : List Int) (L.map ofV)) (sizeR (.mk ⟨3, 0, 0, 0, 0⟩ P) (.mk ⟨0, []⟩ L)).2 := Fits_ev _ _ hwF hwV
  have hS : Ev (fun k => QP.value_Size.f k 3 0 0 0 0 (P.map ofF) 0 ([] : List Int) (L.map ofV)) (sizeR (.mk ⟨3, 0, 0, 0, 0⟩ P) (.mk ⟨0, []⟩ L)).1 := Size_ev _ _ hwF hwV
  have hlast : Ev (fun k => QP.passepartoutlaw05_ValueRows.j2 k (L.map ofV) (n : Int) false 3 0 0 0 0 (P.map ofF)) true := by
    apply Ev.step
    · intro k
      simp only [QP.passepartoutlaw05_ValueRows.j2, List.length_map]
      rfl
    refine Ev.in_ (by simp) ?_
    by_cases h0 : n = 0
    · exact Ev.ip (by omega) (Ev.now _)
    refine Ev.in_ (by omega) ?_
    rw [w64 (by omega) (by omega), show (n : Int) - 1 = ((n - 1 : Nat) : Int) by omega]
    refine Ev.ip (by omega) (Ev.ip (by omega) ?_)
    rw [Int.toNat_natCast, ← List.map_take]
    have hwT : wfV (.mk ⟨0, []⟩ (L.take (n - 1))) = true := wf_list (by rw [List.length_take]; omega) (fun x hx => hL x (List.mem_of_mem_take hx))
    have hz2 : sizeR (.mk ⟨3, 0, 0, 0, 0⟩ P) (.mk ⟨0, []⟩ (L.take (n - 1))) = (0, 15) := by
      have e1 : fitR (.mk ⟨3, 0, 0, 0, 0⟩ P) (.mk ⟨0, []⟩ (L.take (n - 1))) = (0, 15) := by rw [fit_whole]; exact if_pos (by rw [List.length_take]; omega)
      rw [sizeR_eq hd hc, e1]
      rfl
    have hF2 : Ev (fun k => QP.value_Fits.f k 3 0 0 0 0 (P.map ofF) 0 ([] : List Int) ((L.take (n - 1)).map ofV)) (sizeR (.mk ⟨3, 0, 0, 0, 0⟩ P) (.mk ⟨0, []⟩ (L.take (n - 1)))).2 := Fits_ev _ _ hwF hwT
    have hS2 : Ev (fun k => QP.value_Size.f k 3 0 0 0 0 (P.map ofF) 0 ([] : List Int) ((L.take (n - 1)).map ofV)) (sizeR (.mk ⟨3, 0, 0, 0, 0⟩ P) (.mk ⟨0, []⟩ (L.take (n - 1)))).1 := Size_ev _ _ hwF hwT
    rw [hz2] at hF2 hS2
    have hll : ((L.take (n - 1)).map ofV).length ≤ 2000 := by rw [List.length_map, List.length_take]; omega
    refine Ev.cb rfl (Ev.cb (vlist_f _ hll) (Ev.bind hF2 (Ev.ip rfl (Ev.cb (vlist_f _ hll) (Ev.bind hS2 (Ev.is ?_))))))
    rfl
  have hend : ∀ t e : Int, (e = 0 → fitL (.mk ⟨3, 0, 0, 0, 0⟩ P) 0 0 L = (t, 0)) → (e ≠ 0 → fitL (.mk ⟨3, 0, 0, 0, 0⟩ P) 0 0 L = (0, e)) →
      Ev (fun k => QP.passepartoutlaw05_ValueRows.l0 k (L.map ofV) (n : Int) t e (P.map ofF) (n : Int) (n : Int) 3 0 0 0 0 (P.map ofF)) true := by
    intro t e h1 h2
    apply Ev.step
    · intro k
      simp only [QP.passepartoutlaw05_ValueRows.l0]
      rfl
    refine Ev.in_ (by omega) ?_
    refine Ev.cb (vlist_f _ (by rw [List.length_map]; omega)) (Ev.bind hF ?_)
    by_cases he : e = 0
    · rw [h1 he] at hz
      have hz' : sizeR (.mk ⟨3, 0, 0, 0, 0⟩ P) (.mk ⟨0, []⟩ L) = (t, 0) := hz
      rw [hz'] at hS ⊢
      refine Ev.ip he.symm (Ev.ip he (Ev.bind hS ?_))
      rw [show (t != t) = false by simp]
      exact hlast
    · rw [h2 he] at hz
      have hz' : sizeR (.mk ⟨3, 0, 0, 0, 0⟩ P) (.mk ⟨0, []⟩ L) = (0, e) := by rw [hz]; exact if_neg he
      rw [hz']
      exact Ev.ip rfl (Ev.in_ he hlast)
  have key : ∀ (d j : Nat) (t e : Int), n - j = d → j ≤ n → (e = 0 → fitL (.mk ⟨3, 0, 0, 0, 0⟩ P) 0 0 L = fitL (.mk ⟨3, 0, 0, 0, 0⟩ P) t j (L.drop j)) → (e ≠ 0 → fitL (.mk ⟨3, 0, 0, 0, 0⟩ P) 0 0 L = (0, e)) →
      Ev (fun k => QP.passepartoutlaw05_ValueRows.l0 k (L.map ofV) (n : Int) t e (P.map ofF) (n : Int) (j : Int) 3 0 0 0 0 (P.map ofF)) true := by
    intro d
    induction d with
    | zero =>
      intro j t e hdj hj h1 h2
      obtain rfl : j = n := by omega
      refine hend t e (fun he => ?_) h2
      rw [h1 he, List.drop_of_length_le (by omega), fitL_nil, if_pos rfl]
    | succ d ihd =>
      intro j t e hdj hj h1 h2
      have hlt : j < n := by omega
      have hjP : j < P.length := by omega
      have hjL : j < L.length := by omega
      have hwp := hP _ (List.getElem_mem hjP)
      have hwl := hL _ (List.getElem_mem hjL)
      have hsz := sizeR_eq (x := L[j]) (hPd _ (List.getElem_mem hjP)) (hPc _ (List.getElem_mem hjP))
      apply Ev.step
      · intro k
        simp only [QP.passepartoutlaw05_ValueRows.l0, rd_ofF P j hjP, rd_ofV L j hjL, of_f0, of_f1, of_f2, of_f3, of_f4, of_f5, ofV_f0, ofV_f1, ofV_f2]
        rfl
      refine Ev.ip (by omega) (Ev.ip (by omega) (Ev.ip (by rw [List.length_map]; omega) (Ev.ip (by rw [List.length_map]; omega) ?_)))
      refine Ev.bind (Fits_ev P[j] L[j] hwp hwl) ?_
      rw [w64 (x := (j : Int) + 1) (by omega) (by omega), show (j : Int) + 1 = ((j + 1 : Nat) : Int) by omega]
      by_cases he : e = 0
      · refine Ev.ip he (Ev.bind (Size_ev P[j] L[j] hwp hwl) ?_)
        have h3 := h1 he
        rw [fitL_drop _ _ _ _ _ hjL] at h3
        have hg : P.getD (j % P.length) nilF = P[j] := by rw [Nat.mod_eq_of_lt hjP]; simp [hjP]
        rw [hg] at h3
        by_cases hf : (fitR P[j] L[j]).2 = 0
        · rw [if_pos hf] at h3 hsz
          rw [hsz]
          exact ihd (j + 1) _ _ (by omega) (by omega) (fun _ => h3) (fun h => absurd rfl h)
        · rw [if_neg hf] at h3 hsz
          rw [hsz]
          exact ihd (j + 1) _ _ (by omega) (by omega) (fun h => absurd h hf) (fun _ => h3)
      · refine Ev.in_ he (Ev.bind (Size_ev P[j] L[j] hwp hwl) ?_)
        exact ihd (j + 1) _ _ (by omega) (by omega) (fun h => absurd h he) h2
  exact key n 0 0 0 (by omega) (by omega) (fun _ => by rw [List.drop_zero]) (fun h => absurd rfl h)

theorem vrows_ev (P : List Fm) (L : List Vt) (hP : ∀ x ∈ P, wfF x = true) (hL : ∀ x ∈ L, wfV x = true) : Ev (fun k => QP.passepartoutlaw05_ValueRows.f k (P.map ofF) (L.map ofV)) true := by
  simp only [QP.passepartoutlaw05_ValueRows.f, List.length_map]
  obtain ⟨n, hn, h1, h2, h8⟩ : ∃ n : Nat, mn (mn (P.length : Int) (L.length : Int)) 8 = (n : Int) ∧ n ≤ P.length ∧ n ≤ L.length ∧ n ≤ 8 := by
    refine ⟨min (min P.length L.length) 8, ?_, by omega, by omega, by omega⟩
    unfold mn
    omega
  rw [hn]
  simp only [Int.toNat_natCast, ← List.map_take]
  refine Ev.ip (by omega) (Ev.ip (by omega) (Ev.cb rfl (Ev.ip (by omega) (Ev.cb rfl ?_))))
  have hPl : (P.take n).length = n := by rw [List.length_take]; omega
  have hLl : (L.take n).length = n := by rw [List.length_take]; omega
  have hP' : ∀ x ∈ P.take n, wfF x = true := fun x hx => hP x (List.mem_of_mem_take hx)
  have hL' : ∀ x ∈ L.take n, wfV x = true := fun x hx => hL x (List.mem_of_mem_take hx)
  generalize P.take n = P' at hPl hP' ⊢
  generalize L.take n = L' at hLl hL' ⊢
  have hwF := wf_whole (by omega) hP'
  refine Ev.cb alive5_f (Ev.ip rfl ?_)
  have hg : Ev (fun k => QP.passepartoutlaw05_Great.f k 3 0 0 0 0 (P'.map ofF) (L'.map ofV)) (if decide (500 < cntR 500 (.mk ⟨3, 0, 0, 0, 0⟩ P')) || L'.any bigV then 1 else 0) := Great_ev (.mk ⟨3, 0, 0, 0, 0⟩ P') L' hwF (by omega) hL'
  have hck : Ev (fun k => QP.passepartoutref04_Check.f k 3 0 0 0 0 (P'.map ofF)) (if deepB 8 (.mk ⟨3, 0, 0, 0, 0⟩ P') then 14 else checkR (.mk ⟨3, 0, 0, 0, 0⟩ P')) := Check_ev (.mk ⟨3, 0, 0, 0, 0⟩ P') hwF
  have hout : Ev (fun k => QP.passepartoutlaw05_ValueRows.j0 k (P'.map ofF) (L'.map ofV) (n : Int) true 3 0 0 0 0 (P'.map ofF)) true := by
    apply Ev.step
    · intro k
      simp only [QP.passepartoutlaw05_ValueRows.j0]
      rfl
    exact Ev.ip (by simp) (Ev.cb alive5_f (Ev.now _))
  refine Ev.bind hg ?_
  by_cases hbig : (decide (500 < cntR 500 (.mk ⟨3, 0, 0, 0, 0⟩ P')) || L'.any bigV) = true
  · rw [if_pos hbig]
    exact Ev.ip (by omega) hout
  rw [if_neg hbig]
  refine Ev.in_ (by omega) (Ev.bind hck ?_)
  cases hd : deepB 8 (.mk ⟨3, 0, 0, 0, 0⟩ P')
  rotate_left
  · rw [if_pos rfl]
    exact hout
  rw [if_neg (by simp)]
  by_cases hc : checkR (.mk ⟨3, 0, 0, 0, 0⟩ P') = 0
  rotate_left
  · rw [show (checkR (.mk ⟨3, 0, 0, 0, 0⟩ P') != 0) = true by simpa using hc]
    exact hout
  rw [hc, show ((0 : Int) != 0) = false by decide]
  apply Ev.step
  · intro k
    simp only [QP.passepartoutlaw05_ValueRows.j0, List.length_map, hPl]
    rfl
  exact Ev.in_ (by simp) (vrows_in P' L' n hPl hLl h8 hP' hL' hd hc)

theorem vrows_walk (w : World) (v : Value) (P : List Fm) (hv : FsR w (· < w.heap.size) v P) (u : Value) (L : List Vt) (hu : VsR w (· < w.heap.size) u L) : Calls Try.prog 9 #[v, u] w fun e w' => e = .returned (.bool true) ∧ Below w.heap.size w w' := by
  obtain ⟨_, hw1⟩ := hv.wf
  obtain ⟨_, hw2⟩ := hu.wf
  obtain ⟨K, hK⟩ := (vrows_ev P L hw1 hw2).rounds
  obtain ⟨A, c, rfl, _⟩ := id hv
  obtain ⟨A1, c1, rfl, _⟩ := id hu
  obtain ⟨_, g1, g2⟩ := hv.c
  obtain ⟨_, g3, g4⟩ := hu.c
  have := QP.passepartoutlaw05_ValueRows.calls K A c (P.map ofF) A1 c1 (L.map ofV) _ w g2 g1 g4 g3 hK
  simp only [List.length_map] at this
  exact this
end Go.Proofs.Ytfcghajnnllmhaa

namespace Go.Proofs.Ytfcghajnnllmhaa
open Go.Joins Go.ChangeShapes Go.WideShapes Go.ChangeAt Go.RowKit Go.Deep

theorem i64B_of {n : Int} (h : (Lit.int .i64 n).wf = true) : i64B n := by
  obtain ⟨h0, h1⟩ := bounds_i64 h
  exact ⟨h0, by omega⟩
section
variable {H : Type} {enc : TypeId × Value → H} {w : World} {sp : Nat → Bool} {held : Bool} {r : Reach} {b0 : Nat}
end
end Go.Proofs.Ytfcghajnnllmhaa

namespace Go.Proofs.Ytfcghajnnllmhaa
open Go.Joins Go.ChangeShapes Go.WideShapes Go.ChangeAt Go.RowKit Go.Deep

theorem form_type : TreeType Try.prog 27 25 (match Try.prog.underlying 27 with | some (.struct fs) => fs | _ => #[]) 5 where
  ht := by rw [Try.underlying27]
  hone := by rw [Try.underlying27]; kernel_rfl
  hC := by kernel_rfl
  hn := by rw [Try.underlying27]; rfl
  hlast := by rw [Try.underlying27]; rfl
  hts := Try.underlying25
  hB := by rw [show Try.prog.bytesOf 27 = 64 from by kernel_rfl]; omega
section
variable {H : Type} {enc : TypeId × Value → H} {w : World} {sp : Nat → Bool} {held : Bool} {r : Reach} {b0 : Nat}
theorem sized_at {P : Program} {ts : List TypeId} {ds : List (DataW H)} (hsz : (DataW.weightsEach P ts ds).all (· ≤ reachBytes) = true) {j : Nat} {t : TypeId} {d : DataW H} (ht : ts[j]? = some t) (hd : ds[j]? = some d) : (d.weights P t).all (· ≤ reachBytes) = true :=
  List.all_eq_true.2 fun n hn => List.all_eq_true.1 hsz n (DataW.weights_mem_each ht hd n hn)
theorem form_head : HeadOpen enc Try.prog w sp held (match Try.prog.underlying 27 with | some (.struct fs) => fs | _ => #[]) 5 FHd := by
  intro vs ds hl hf
  have each : ∀ i, i < 5 → ∃ n : Int, vs[i]? = some (.int .i64 n) ∧ i64B n := by
    intro i hi
    obtain ⟨f, v, d, ps, fuel, hfi, hv, _, ht, _⟩ := hf i hi
    have hft : f.type = 3 := by
      rw [Try.underlying27] at hfi
      rcases (show i = 0 ∨ i = 1 ∨ i = 2 ∨ i = 3 ∨ i = 4 by omega) with rfl | rfl | rfl | rfl | rfl <;>
        · simp at hfi
          rw [← hfi]
    rw [hft] at ht
    obtain ⟨k0, e0, _, hw0⟩ := DataW.trod_int Try.underlying3 ht
    simp only [List.cons.injEq, and_true] at e0
    exact ⟨k0, by rw [hv, e0], i64B_of hw0⟩
  obtain ⟨a, ha, b0⟩ := each 0 (by omega)
  obtain ⟨b, hb, b1⟩ := each 1 (by omega)
  obtain ⟨c, hc, b2⟩ := each 2 (by omega)
  obtain ⟨d, hd, b3⟩ := each 3 (by omega)
  obtain ⟨e, he, b4⟩ := each 4 (by omega)
  refine ⟨⟨a, b, c, d, e⟩, ?_, ⟨b0, b1, b2, b3, b4⟩⟩
  rcases vs with _ | ⟨v0, _ | ⟨v1, _ | ⟨v2, _ | ⟨v3, _ | ⟨v4, _ | ⟨v5, vs⟩⟩⟩⟩⟩⟩ <;> simp_all
theorem open_forms {v : Value} {d : DataW H} {ps : List MemPlace} {ts : List TypeId} {ds : List (DataW H)} (hv : Value.okWide Try.prog w r b0 25 v) (h : DataW.Trod enc Try.prog w 0 sp held 25 v d ps)
    (_hsz : (DataW.weightsEach Try.prog ts ds).all (· ≤ reachBytes) = true) {j : Nat} (_ht : ts[j]? = some 25) (_hd : ds[j]? = some d) : ∃ l : List Fm, FsR w (· < w.heap.size) v l := by
  obtain ⟨a, n, c, rfl⟩ := okWide_slice Try.underlying25 hv
  obtain ⟨fuel, hf⟩ := h
  obtain ⟨l, A, c', e, h1, h2, h3⟩ := (open_tree_ form_type form_head fuel).2 _ _ _ hf (sized_at _hsz _ht _hd)
  simp [Value.cells] at e
  obtain ⟨rfl, rfl, rfl⟩ := e
  exact ⟨l, _, _, rfl, h1, h2, h3⟩
end
end Go.Proofs.Ytfcghajnnllmhaa

namespace Go.Proofs.Ytfcghajnnllmhaa
open Go.ChangeShapes Go.WideShapes Go.ChangeAt Go.RowKit Go.Deep

section
variable {H : Type} {enc : TypeId × Value → H} {P : Program} {w : World} {spare : Nat → Bool} {held : Bool}

theorem cells_ir {t e : TypeId} {k : IntKind} {v : Value} {fuel : Nat} {x : DataW H × List MemPlace} (ht : P.underlying t = some (.slice e)) (he : P.underlying e = some (.int k)) (hC : P.cellsOf e = 1)
    (hf : DataW.trod enc P w 0 spare held fuel t [v] = some x) :
    ∃ l : List Int, IR k w (· < w.heap.size) v l ∧ (∀ n ∈ l, (Lit.int k n).wf = true) ∧ lenD x.1 = l.length ∧ l.length ≤ maxLen := by
  rcases open_ints ht he hC hf with ⟨hcs, hx⟩ | ⟨x, l, c, zs, hcs, _, hl, hm, hz, hx, hcell, hwz⟩
  · simp only [List.cons.injEq, and_true] at hcs
    subst hcs hx
    exact ⟨[], ⟨none, 0, rfl, Nat.le_refl _, Rd.none_⟩, fun n hn => by simp at hn, rfl, Nat.zero_le _⟩
  · simp only [List.cons.injEq, and_true] at hcs
    subst hcs hx
    have hlz : l ≤ zs.length := by rw [hz]; split <;> omega
    have hlt : (zs.take l).length = l := by simp; omega
    refine ⟨zs.take l, ⟨some x, c, ?_, ?_, ?_, fun hn => ?_⟩, fun n hn => hwz n (List.mem_of_mem_take hn), ?_, by rw [hlt]; omega⟩
    · rw [hlt]
    · rw [hlt]; exact hl
    · simp [ic]
    · have h0 := hcell 0 (by rw [hlt] at hn; omega)
      have hsp : x.spot = none := by simpa [Addr.add] using World.cell?_spot h0
      have hb := cell_lt h0
      rw [block_add] at hb
      refine ⟨x, rfl, hsp, hb, fun j u hu => ?_⟩
      simp only [ic, List.getElem?_map, List.getElem?_take] at hu
      split at hu
      · rename_i hj
        have hj' : j < zs.length := by omega
        rw [List.getElem?_eq_getElem hj'] at hu
        simp at hu
        subst hu
        have h1 := hcell j hj'
        rw [h1]
        simp [List.getElem?_eq_getElem hj']
      · simp at hu
    · simp [lenD, lits]

theorem cells_br {t e : TypeId} {v : Value} {fuel : Nat} {x : DataW H × List MemPlace} (ht : P.underlying t = some (.slice e)) (he : P.underlying e = some (.int .u8)) (hC : P.cellsOf e = 1)
    (hf : DataW.trod enc P w 0 spare held fuel t [v] = some x) :
    ∃ l : List UInt8, BR w (· < w.heap.size) v l ∧ lenD x.1 = l.length ∧ l.length ≤ maxLen := by
  obtain ⟨l, ⟨A, c, rfl, hc, hr⟩, hw, hd, hm⟩ := cells_ir ht he hC hf
  obtain ⟨m, hme, hl⟩ := bytes_of hw
  refine ⟨m, ⟨A, c, by rw [hl], by omega, ?_⟩, by omega, by omega⟩
  rw [← hme, hl]
  exact hr
end
end Go.Proofs.Ytfcghajnnllmhaa

namespace Go.Proofs.Ytfcghajnnllmhaa
open Go.Joins Go.ChangeShapes Go.WideShapes Go.ChangeAt Go.RowKit Go.Deep

theorem value_type : TreeType Try.prog 46 44 (match Try.prog.underlying 46 with | some (.struct fs) => fs | _ => #[]) 2 where
  ht := by rw [Try.underlying46]
  hone := by rw [Try.underlying46]; kernel_rfl
  hC := by kernel_rfl
  hn := by rw [Try.underlying46]; rfl
  hlast := by rw [Try.underlying46]; rfl
  hts := Try.underlying44
  hB := by rw [show Try.prog.bytesOf 46 = 56 from by kernel_rfl]; omega
section
variable {H : Type} {enc : TypeId × Value → H} {w : World} {sp : Nat → Bool} {held : Bool} {r : Reach} {b0 : Nat}
theorem weights_lenD {P : Program} {t e : TypeId} {d : DataW H} (ht : P.underlying t = some (.slice e)) (h : (d.weights P t).all (· ≤ reachBytes) = true) : lenD d * P.bytesOf e ≤ 140737488351232 := by
  cases d with
  | slice es rest => exact weights_len ht h
  | _ => simp [lenD]
theorem value_head : HeadOpen enc Try.prog w sp held (match Try.prog.underlying 46 with | some (.struct fs) => fs | _ => #[]) 2 VHd := by
  intro vs ds hl hf
  obtain ⟨f0, v0, d0, ps0, fuel0, hf0, hv0, _, ht0, _⟩ := hf 0 (by omega)
  obtain ⟨f1, v1, d1, ps1, fuel1, hf1, hv1, _, ht1, hw1⟩ := hf 1 (by omega)
  have e0 : f0.type = 42 := by
    rw [Try.underlying46] at hf0
    simp at hf0
    rw [← hf0]
  have e1 : f1.type = 43 := by
    rw [Try.underlying46] at hf1
    simp at hf1
    rw [← hf1]
  rw [e0] at ht0
  rw [e1] at ht1 hw1
  obtain ⟨k0, x0, _, hk0⟩ := DataW.trod_int Try.underlying42 ht0
  simp only [List.cons.injEq, and_true] at x0
  obtain ⟨b, hb, hb2, _⟩ := cells_br Try.underlying43 Try.underlying5 (by kernel_rfl) ht1
  have hlen := weights_lenD Try.underlying43 hw1
  rw [show Try.prog.bytesOf 5 = 1 from by kernel_rfl, Nat.mul_one] at hlen
  obtain ⟨q0, q1⟩ := bounds_u64 hk0
  refine ⟨⟨k0, b⟩, v1, ?_, ⟨q0, by show k0 < _; omega⟩, hb, by show b.length ≤ _; simp only at hb2; omega⟩
  rcases vs with _ | ⟨y0, _ | ⟨y1, _ | ⟨y2, vs⟩⟩⟩ <;> simp_all
theorem open_values {v : Value} {d : DataW H} {ps : List MemPlace} {ts : List TypeId} {ds : List (DataW H)} (hv : Value.okWide Try.prog w r b0 44 v) (h : DataW.Trod enc Try.prog w 0 sp held 44 v d ps)
    (_hsz : (DataW.weightsEach Try.prog ts ds).all (· ≤ reachBytes) = true) {j : Nat} (_ht : ts[j]? = some 44) (_hd : ds[j]? = some d) : ∃ l : List Vt, VsR w (· < w.heap.size) v l := by
  obtain ⟨a, n, c, rfl⟩ := okWide_slice Try.underlying44 hv
  obtain ⟨fuel, hf⟩ := h
  obtain ⟨l, A, c', e, h1, h2, h3⟩ := (open_tree_ value_type value_head fuel).2 _ _ _ hf (sized_at _hsz _ht _hd)
  simp [Value.cells] at e
  obtain ⟨rfl, rfl, rfl⟩ := e
  exact ⟨l, _, _, rfl, h1, h2, h3⟩
end
end Go.Proofs.Ytfcghajnnllmhaa

namespace Go.Proofs.Ytfcghajnnllmhaa.valueRows
open Go.ChangeShapes Go.WideShapes Go.ChangeAt Go.RowKit
set_option linter.unusedVariables false

theorem own : ownKnob Try.prog.godebug = none := by kernel_rfl
theorem laidOut : laidOutB Try.prog = true := by kernel_rfl

set_option maxRecDepth 100000 in
theorem lifted (os : Os) (started : os.Started) (H : Type) (enc : TypeId × Value → H) :
    ReturnsInHanded {} Try.checked os 9 .any (Rows.valueRowsSpec.pre6 enc Try.prog Try.f9 Rows.valueRowsRow.domain false) (Rows.valueRowsSpec.post enc Try.prog Try.f9 false true false false) := by
  refine returnsInHanded_of_change_sized (C := Try.checked) own started (by kernel_rfl) Try.func9
    (ChangeSpec.witness6 (enc := enc) (C := Try.checked) false ⟨#[], #[.slice none 0 0, .slice none 0 0], []⟩ 8 (by kernel_rfl) (by kernel_rfl) (by kernel_rfl) (by kernel_rfl)) ?_
  intro W base args ds gs before hval0 hW hcnd hsz0 _
  have hval : ∀ (j : Nat) t v, Try.f9.params[j]? = some t → args[j]? = some v → Value.okWide Try.prog W .any base t v := hval0
  have hW' := hW
  obtain ⟨p, q, hA0, hV, rfl, hfz, hnd⟩ := hW
  have hA : DataW.TrodAll enc Try.prog W 0 (fun _ => true) true Try.f9.params.toList args.toList ds p := hA0
  obtain ⟨rfl, rfl⟩ := trodVars_none hV
  have hsz : (DataW.weightsEach Try.prog (Try.f9.params.toList ++ []) (ds ++ [])).all (· ≤ reachBytes) = true := hsz0
  rw [List.append_nil, List.append_nil] at hsz
  rw [Try.params9] at hA hval hsz
  obtain ⟨v0, vs0, d0, ds0, p0, q0, hargs, rfl, rfl, h0, r0⟩ := trodAll_cons hA
  obtain ⟨v1, vs1, d1, ds1, p1, q1, rfl, rfl, rfl, h1, r1⟩ := trodAll_cons r0
  obtain ⟨rfl, rfl, rfl⟩ := trodAll_nil r1
  obtain rfl : args = #[v0, v1] := by cases args; simp_all
  have k0 := h0
  have lt0 : ∀ x ∈ p0, x.block < W.heap.size := by obtain ⟨m, hm⟩ := k0; exact DataW.trod_lt m _ _ _ hm
  have k1 := h1
  have lt1 : ∀ x ∈ p1, x.block < W.heap.size := by obtain ⟨m, hm⟩ := k1; exact DataW.trod_lt m _ _ _ hm
  obtain ⟨l0, b0⟩ := open_forms (hval 0 25 v0 rfl rfl) h0 (_hsz := hsz) (j := 0) rfl rfl
  obtain ⟨l1, b1⟩ := open_values (hval 1 44 v1 rfl rfl) h1 (_hsz := hsz) (j := 1) rfl rfl
  clear hA0 hval0 hsz0
  refine (vrows_walk W v0 l0 b0 v1 l1 b1).mono fun e W' ⟨he, bel⟩ => ?_
  subst he
  exact ⟨_, rfl, _, _, _, [], _, [], hW', trodAll_mk1 (shut_bool Try.underlying4 _), (trodAll_cons_mk (Below.trod laidOut (by kernel_rfl) (of_decide_eq_true (by kernel_rfl)) k0 bel lt0) (trodAll_cons_mk (Below.trod laidOut (by kernel_rfl) (of_decide_eq_true (by kernel_rfl)) k1 bel lt1) trodAll_mk0)), rfl, bel.frame _, fun h => by cases h⟩

theorem over : Rows.valueRowsRow.holds Try.pinned (OpenSpec.ofChange Rows.valueRowsSpec) :=
  OpenClaim.holds_of_wide 9 Try.f9 rfl rfl rfl rfl rfl rfl rfl ⟨rfl, rfl, rfl, rfl, rfl⟩ rfl rfl rfl rfl rfl (by kernel_rfl) Try.func9 (by kernel_rfl)
    (of_decide_eq_true (by kernel_rfl)) (by unfold Func.isWrapper; first | (rw [if_pos (by decide +kernel)]; kernel_rfl) | (rw [if_neg (by decide +kernel)]; exact ⟨rfl, rfl⟩))
    (fun os started H enc _ => lifted os started H enc)

theorem proved : Rows.ValueRowsSaid := over
#print axioms proved
end Go.Proofs.Ytfcghajnnllmhaa.valueRows
