/-
  Texts for the law ValueNumbers: part 3.
-/
import Derived.Test.YtfcghajnnllmhaaMValueNumbers1
import Derived.Test.YtfcghajnnllmhaaMValueNumbers2

set_option linter.unusedVariables false
set_option linter.unusedSimpArgs false
namespace Go.Proofs.Ytfcghajnnllmhaa.QP
open Go.RowKit Go.Proofs.YtfcghajnnllmhaaW.PrintWords Go.Proofs.YtfcghajnnllmhaaW.PrintLast Go.Proofs.YtfcghajnnllmhaaW.PrintMore
attribute [local go_sem] max2_int min2_int max_two min_two max_three min_three max_four min_four   -- for this text's walks alone
set_option linter.unusedVariables false
set_option linter.unusedSimpArgs false

/-! ### value_fit: function 66 -/
mutual
def value_fit.j0 : Nat → Bool → Int → Int → Int → Int → Int → List (S27) → Int → List Int → List (S46) → Option (Int × Int)
 | 0,_,_,_,_,_,_,_,_,_,_ => none
 | k + 1,x88,x242000,x242001,x242002,x242003,x242004,x242005,x243000,x243001,x243002 => if x88 = true then (some (0,15)) else (value_fit.l0 k 0 x243002 (x243002.length : Int) 0 x242000 x242001 x242002 x242003 x242004 x242005)
def value_fit.l0 : Nat → Int → List (S46) → Int → Int → Int → Int → Int → Int → Int → List (S27) → Option (Int × Int)
 | 0,_,_,_,_,_,_,_,_,_,_ => none
 | k + 1,x6,x90,x91,x92,x242000,x242001,x242002,x242003,x242004,x242005 => if x92 < x91 then (if 0 ≤ x92 then (if x92 < (x90.length : Int) then (if (x242005.length : Int) = 0 then (none) else (if 0 ≤ (Int.tmod x92 (x242005.length : Int)) then (if (Int.tmod x92 (x242005.length : Int)) < (x242005.length : Int) then ((value_fit.f k ((rd_T27 x242005 (Int.tmod x92 (x242005.length : Int))).f0) ((rd_T27 x242005 (Int.tmod x92 (x242005.length : Int))).f1) ((rd_T27 x242005 (Int.tmod x92 (x242005.length : Int))).f2) ((rd_T27 x242005 (Int.tmod x92 (x242005.length : Int))).f3) ((rd_T27 x242005 (Int.tmod x92 (x242005.length : Int))).f4) ((rd_T27 x242005 (Int.tmod x92 (x242005.length : Int))).f5) ((rd_T46 x90 x92).f0) ((rd_T46 x90 x92).f1) ((rd_T46 x90 x92).f2)).bind fun bt250 => (if bt250.2 = 0 then (value_fit.l0 k (wrap64 (x6 + bt250.1)) x90 x91 (wrap64 (x92 + 1)) x242000 x242001 x242002 x242003 x242004 x242005) else (some (0,bt250.2)))) else (none)) else (none))) else (none)) else (none)) else (if x242000 = 3 then (some (x6,0)) else ((value_may.f x6 x242002 x242003 x242004).bind fun t252 => (some (wrap64 (x242001 + x6),t252))))
def value_fit.f : Nat → Int → Int → Int → Int → Int → List (S27) → Int → List Int → List (S46) → Option (Int × Int)
 | 0,_,_,_,_,_,_,_,_,_ => none
 | k + 1,a0_0,a0_1,a0_2,a0_3,a0_4,l0_5,a1_0,l1_1,l1_2 => (value_alone.f a0_0 a1_0 l1_1 l1_2).bind fun t243 => (if t243 = true then (if a0_0 = 0 then (if a0_1 < 8 then (if 0 ≤ (wrap64 (8 * a0_1)) then (if (shr .u64 a1_0 (wrap64 (8 * a0_1))) = 0 then (some (a0_1,0)) else (some (0,3))) else (none)) else (some (a0_1,0))) else (if a0_0 = 1 then ((value_may.f (l1_1.length : Int) a0_2 a0_3 a0_4).bind fun t244 => (some (wrap64 (a0_1 + (l1_1.length : Int)),t244))) else (if a0_0 = 4 then ((value_may.f (l1_1.length : Int) a0_2 a0_3 1).bind fun t245 => (some ((l1_1.length : Int),t245))) else (if a0_0 = 5 then ((value_may.f (l1_1.length : Int) a0_2 a0_2 1).bind fun t246 => (some (a0_2,t246))) else (if a0_0 = 3 then (value_fit.j0 k ((l1_2.length : Int) != (l0_5.length : Int)) a0_0 a0_1 a0_2 a0_3 a0_4 l0_5 a1_0 l1_1 l1_2) else (value_fit.j0 k false a0_0 a0_1 a0_2 a0_3 a0_4 l0_5 a1_0 l1_1 l1_2)))))) else (some (0,15)))
end
theorem value_fit.mono_l : ∀ k,(∀ y0 y1 y2 y3 y4 y5 y6 y7 y8,LeO (value_fit.f k y0 y1 y2 y3 y4 y5 y6 y7 y8) (value_fit.f (k + 1) y0 y1 y2 y3 y4 y5 y6 y7 y8)) ∧ (∀ y0 y1 y2 y3 y4 y5 y6 y7 y8 y9,LeO (value_fit.j0 k y0 y1 y2 y3 y4 y5 y6 y7 y8 y9) (value_fit.j0 (k + 1) y0 y1 y2 y3 y4 y5 y6 y7 y8 y9)) ∧ (∀ y0 y1 y2 y3 y4 y5 y6 y7 y8 y9,LeO (value_fit.l0 k y0 y1 y2 y3 y4 y5 y6 y7 y8 y9) (value_fit.l0 (k + 1) y0 y1 y2 y3 y4 y5 y6 y7 y8 y9))
 | 0 => ⟨fun _ _ _ _ _ _ _ _ _ r h => by simp [value_fit.f] at h,fun _ _ _ _ _ _ _ _ _ _ r h => by simp [value_fit.j0] at h,fun _ _ _ _ _ _ _ _ _ _ r h => by simp [value_fit.l0] at h⟩
 | k + 1 => by
  obtain ⟨ih0,ih1,ih2⟩ := value_fit.mono_l k
  refine ⟨?_,?_,?_⟩
  ·intro y0 y1 y2 y3 y4 y5 y6 y7 y8
   unfold value_fit.f
   repeat' first
   | (with_reducible exact ih0 _ _ _ _ _ _ _ _ _)
   | (with_reducible exact ih1 _ _ _ _ _ _ _ _ _ _)
   | (with_reducible exact ih2 _ _ _ _ _ _ _ _ _ _)
   | (with_reducible exact LeO.refl _)
   | (with_reducible exact LeO.none _)
   | (with_reducible refine LeO.ite ?_ ?_)
   | (with_reducible refine LeO.bind ?_ (fun _ => ?_))
   | exact ih0 _ _ _ _ _ _ _ _ _
   | exact ih1 _ _ _ _ _ _ _ _ _ _
   | exact ih2 _ _ _ _ _ _ _ _ _ _
   | exact LeO.none _
   | refine LeO.ite ?_ ?_
   | refine LeO.bind ?_ (fun _ => ?_)
  ·intro y0 y1 y2 y3 y4 y5 y6 y7 y8 y9
   unfold value_fit.j0
   repeat' first
   | (with_reducible exact ih0 _ _ _ _ _ _ _ _ _)
   | (with_reducible exact ih1 _ _ _ _ _ _ _ _ _ _)
   | (with_reducible exact ih2 _ _ _ _ _ _ _ _ _ _)
   | (with_reducible exact LeO.refl _)
   | (with_reducible exact LeO.none _)
   | (with_reducible refine LeO.ite ?_ ?_)
   | (with_reducible refine LeO.bind ?_ (fun _ => ?_))
   | exact ih0 _ _ _ _ _ _ _ _ _
   | exact ih1 _ _ _ _ _ _ _ _ _ _
   | exact ih2 _ _ _ _ _ _ _ _ _ _
   | exact LeO.none _
   | refine LeO.ite ?_ ?_
   | refine LeO.bind ?_ (fun _ => ?_)
  ·intro y0 y1 y2 y3 y4 y5 y6 y7 y8 y9
   unfold value_fit.l0
   repeat' first
   | (with_reducible exact ih0 _ _ _ _ _ _ _ _ _)
   | (with_reducible exact ih1 _ _ _ _ _ _ _ _ _ _)
   | (with_reducible exact ih2 _ _ _ _ _ _ _ _ _ _)
   | (with_reducible exact LeO.refl _)
   | (with_reducible exact LeO.none _)
   | (with_reducible refine LeO.ite ?_ ?_)
   | (with_reducible refine LeO.bind ?_ (fun _ => ?_))
   | exact ih0 _ _ _ _ _ _ _ _ _
   | exact ih1 _ _ _ _ _ _ _ _ _ _
   | exact ih2 _ _ _ _ _ _ _ _ _ _
   | exact LeO.none _
   | refine LeO.ite ?_ ?_
   | refine LeO.bind ?_ (fun _ => ?_)
theorem value_fit.mono : ∀ a0 a1 a2 a3 a4 a5 a6 a7 a8 k,LeO (value_fit.f k a0 a1 a2 a3 a4 a5 a6 a7 a8) (value_fit.f (k + 1) a0 a1 a2 a3 a4 a5 a6 a7 a8) := by
 intro a0 a1 a2 a3 a4 a5 a6 a7 a8 k
 obtain ⟨ih0,ih1,ih2⟩ := value_fit.mono_l k
 exact ih0 a0 a1 a2 a3 a4 a5 a6 a7 a8
def value_fit.T9 : Bool × List (List Nat × List Nat) := (true,[([],[]),([0],[0]),([],[]),([2],[2]),([3],[3]),([1,4],[1,4]),([],[]),([6],[6]),([7],[7]),([],[]),([9],[9]),([],[]),([11],[11]),([],[]),([13],[13]),([8,10,12,14],[8,10,12,14]),([5,15,0,1,2,3,4,5],[5]),([15,16,0,1,2,3,4,5,6,7,8,9,10,11,12,13,14,15,16],[15])])
def value_fit.B9 : List Nat := [0,1,0,4,12,31,0,64,192,0,512,0,2048,0,8192,32704,65535,131071]
theorem value_fit.tab9 : rtab .any (opsOf Try.f66 9) = value_fit.T9 := by kernel_rfl
theorem value_fit.bits9 : waitsOk value_fit.T9.2 value_fit.B9 = true := by kernel_rfl
def value_fit.T11 : Bool × List (List Nat × List Nat) := (true,[([],[]),([0],[0]),([1],[1]),([],[]),([3],[3]),([4],[4]),([],[]),([6],[6]),([],[]),([8],[8]),([5,7,9],[5,7,9]),([2,10,0,1,2],[2]),([10,11,0,1,2,3,4,5,6,7,8,9,10,11],[10])])
def value_fit.B11 : List Nat := [0,1,3,0,8,24,0,64,0,256,1016,2047,4095]
theorem value_fit.tab11 : rtab .any (opsOf Try.f66 11) = value_fit.T11 := by kernel_rfl
theorem value_fit.bits11 : waitsOk value_fit.T11.2 value_fit.B11 = true := by kernel_rfl
def value_fit.T13 : Bool × List (List Nat × List Nat) := (true,[([],[]),([0],[0]),([],[]),([2],[2]),([3],[3]),([],[]),([5],[5]),([],[]),([7],[7]),([4,6,8],[4,6,8]),([1,9,0,1],[1]),([9,10,0,1,2,3,4,5,6,7,8,9,10],[9])])
def value_fit.B13 : List Nat := [0,1,0,4,12,0,32,0,128,508,1023,2047]
theorem value_fit.tab13 : rtab .any (opsOf Try.f66 13) = value_fit.T13 := by kernel_rfl
theorem value_fit.bits13 : waitsOk value_fit.T13.2 value_fit.B13 = true := by kernel_rfl
def value_fit.T20 : Bool × List (List Nat × List Nat) := (true,[([],[]),([0],[0]),([],[]),([],[]),([3],[3]),([4],[4]),([2,5],[2,5]),([1,6],[1,6]),([7],[7]),([],[]),([8,9],[8,9]),([10],[10]),([11],[11]),([11],[11]),([12,10,0,1,2,3,4,5,6,7,8,9,10,11,12],[12]),([13,14,0,1,2,3,4,5,6,7,8,9,10,11,12,13,14],[13])])
def value_fit.B20 : List Nat := [0,1,0,0,8,24,60,127,255,0,1023,2047,4095,4095,8191,32767]
theorem value_fit.tab20 : rtab .any (opsOf Try.f66 20) = value_fit.T20 := by kernel_rfl
theorem value_fit.bits20 : waitsOk value_fit.T20.2 value_fit.B20 = true := by kernel_rfl
def value_fit.T27 : Bool × List (List Nat × List Nat) := (true,[([],[]),([0],[0]),([],[]),([1,2],[1,2]),([],[]),([],[]),([5],[5]),([],[]),([7],[7]),([],[]),([9],[9]),([4,6,8,10],[4,6,8,10]),([3,11,0,1,2,3],[3]),([11,12,0,1,2,3,4,5,6,7,8,9,10,11,12],[11])])
def value_fit.B27 : List Nat := [0,1,0,7,0,0,32,0,128,0,512,2032,4095,8191]
theorem value_fit.tab27 : rtab .any (opsOf Try.f66 27) = value_fit.T27 := by kernel_rfl
theorem value_fit.bits27 : waitsOk value_fit.T27.2 value_fit.B27 = true := by kernel_rfl
set_option maxHeartbeats 8000000 in
set_option maxRecDepth 100000 in
theorem value_fit.calls (k : Nat) : ∀ (a0_0 : Int) (a0_1 : Int) (a0_2 : Int) (a0_3 : Int) (a0_4 : Int) (A0_5 : Option Addr) (c0_5 : Nat) (l0_5 : List (S27)) (a1_0 : Int) (A1_1 : Option Addr) (c1_1 : Nat) (l1_1 : List Int) (A1_2 : Option Addr) (c1_2 : Nat) (l1_2 : List (S46)) (r1 : Int) (r2 : Int) (w : World) (hr0_5 : Kd.C k27 w A0_5 l0_5.length l0_5) (hc0_5 : l0_5.length ≤ c0_5) (hr1_1 : Kd.C (Kd.int .u8) w A1_1 l1_1.length l1_1) (hc1_1 : l1_1.length ≤ c1_1) (hr1_2 : Kd.C k46 w A1_2 l1_2.length l1_2) (hc1_2 : l1_2.length ≤ c1_2) (h : value_fit.f k a0_0 a0_1 a0_2 a0_3 a0_4 l0_5 a1_0 l1_1 l1_2 = some (r1,r2)),
  Calls Try.prog 66 #[.agg #[.int .i64 a0_0,.int .i64 a0_1,.int .i64 a0_2,.int .i64 a0_3,.int .i64 a0_4,.slice A0_5 l0_5.length c0_5],.agg #[.int .u64 a1_0,.slice A1_1 l1_1.length c1_1,.slice A1_2 l1_2.length c1_2]] w fun e w' => e = .returned (.tuple #[.int .i64 r1,.int .i64 r2]) ∧ Below w.heap.size w w' := by
 induction k using Nat.strongRecOn with
 | _ k ih =>
 intro a0_0 a0_1 a0_2 a0_3 a0_4 A0_5 c0_5 l0_5 a1_0 A1_1 c1_1 l1_1 A1_2 c1_2 l1_2 r1 r2 w hr0_5 hc0_5 hr1_1 hc1_1 hr1_2 hc1_2 h
 cases k with
 | zero => exact absurd h (by simp [value_fit.f])
 | succ k =>
 simp only [value_fit.f] at h
 have hu27 := Try.underlying27
 have hu46 := Try.underlying46
 have HR0_5 := Aside0.mk hr0_5
 have HC0_5 := Aside0.mk hc0_5
 clear hr0_5 hc0_5
 have HR1_1 := Aside0.mk hr1_1
 have HC1_1 := Aside0.mk hc1_1
 clear hr1_1 hc1_1
 have HR1_2 := Aside0.mk hr1_2
 have HC1_2 := Aside0.mk hc1_2
 clear hr1_2 hc1_2
 have HB := Aside0.mk (Below.refl w.heap.size w)
 have H : ((value_alone.f a0_0 a1_0 l1_1 l1_2).bind fun t243 => (if t243 = true then (if a0_0 = 0 then (if a0_1 < 8 then (if 0 ≤ (wrap64 (8 * a0_1)) then (if (shr .u64 a1_0 (wrap64 (8 * a0_1))) = 0 then (some (a0_1,0)) else (some (0,3))) else (none)) else (some (a0_1,0))) else (if a0_0 = 1 then ((value_may.f (l1_1.length : Int) a0_2 a0_3 a0_4).bind fun t244 => (some (wrap64 (a0_1 + (l1_1.length : Int)),t244))) else (if a0_0 = 4 then ((value_may.f (l1_1.length : Int) a0_2 a0_3 1).bind fun t245 => (some ((l1_1.length : Int),t245))) else (if a0_0 = 5 then ((value_may.f (l1_1.length : Int) a0_2 a0_2 1).bind fun t246 => (some (a0_2,t246))) else (if a0_0 = 3 then (value_fit.j0 k ((l1_2.length : Int) != (l0_5.length : Int)) a0_0 a0_1 a0_2 a0_3 a0_4 l0_5 a1_0 l1_1 l1_2) else (value_fit.j0 k false a0_0 a0_1 a0_2 a0_3 a0_4 l0_5 a1_0 l1_1 l1_2)))))) else (some (0,15)))) = some (r1,r2) := h
 clear h
 replace H := Option.bind_eq_some_iff.mp H
 obtain ⟨t243,A30,H⟩ := H
 replace H : (if t243 = true then (if a0_0 = 0 then (if a0_1 < 8 then (if 0 ≤ (wrap64 (8 * a0_1)) then (if (shr .u64 a1_0 (wrap64 (8 * a0_1))) = 0 then (some (a0_1,0)) else (some (0,3))) else (none)) else (some (a0_1,0))) else (if a0_0 = 1 then ((value_may.f (l1_1.length : Int) a0_2 a0_3 a0_4).bind fun t244 => (some (wrap64 (a0_1 + (l1_1.length : Int)),t244))) else (if a0_0 = 4 then ((value_may.f (l1_1.length : Int) a0_2 a0_3 1).bind fun t245 => (some ((l1_1.length : Int),t245))) else (if a0_0 = 5 then ((value_may.f (l1_1.length : Int) a0_2 a0_2 1).bind fun t246 => (some (a0_2,t246))) else (if a0_0 = 3 then (value_fit.j0 k ((l1_2.length : Int) != (l0_5.length : Int)) a0_0 a0_1 a0_2 a0_3 a0_4 l0_5 a1_0 l1_1 l1_2) else (value_fit.j0 k false a0_0 a0_1 a0_2 a0_3 a0_4 l0_5 a1_0 l1_1 l1_2)))))) else (some (0,15))) = some (r1,r2) := H
 have A3 := Aside0.mk A30
 clear A30
 by_cases c4 : t243 = true
 ·subst c4
  have H1 : (if a0_0 = 0 then (if a0_1 < 8 then (if 0 ≤ (wrap64 (8 * a0_1)) then (if (shr .u64 a1_0 (wrap64 (8 * a0_1))) = 0 then (some (a0_1,0)) else (some (0,3))) else (none)) else (some (a0_1,0))) else (if a0_0 = 1 then ((value_may.f (l1_1.length : Int) a0_2 a0_3 a0_4).bind fun t244 => (some (wrap64 (a0_1 + (l1_1.length : Int)),t244))) else (if a0_0 = 4 then ((value_may.f (l1_1.length : Int) a0_2 a0_3 1).bind fun t245 => (some ((l1_1.length : Int),t245))) else (if a0_0 = 5 then ((value_may.f (l1_1.length : Int) a0_2 a0_2 1).bind fun t246 => (some (a0_2,t246))) else (if a0_0 = 3 then (value_fit.j0 k ((l1_2.length : Int) != (l0_5.length : Int)) a0_0 a0_1 a0_2 a0_3 a0_4 l0_5 a1_0 l1_1 l1_2) else (value_fit.j0 k false a0_0 a0_1 a0_2 a0_3 a0_4 l0_5 a1_0 l1_1 l1_2)))))) = some (r1,r2) := by rw [if_pos rfl] at H;exact H
  clear H
  have H := H1
  clear H1
  by_cases c5 : a0_0 = 0
  ·rw [if_pos c5] at H
   have c5b0 : (a0_0 == 0) = true := beq_iff_eq.mpr c5
   have c5b1 : (a0_0 != 0) = false := bne_eq_false_iff_eq.mpr c5
   clear c5
   by_cases c6 : a0_1 < 8
   ·rw [if_pos c6] at H
    have c6b0 : decide (a0_1 < 8) = true := decide_eq_true c6
    clear c6
    obtain ⟨ji7,hji7⟩ : ∃ j_ : Int,(wrap64 (8 * a0_1)) = j_ := ⟨_,rfl⟩
    replace H : (if 0 ≤ (ji7) then (if (shr .u64 a1_0 (ji7)) = 0 then (some (a0_1,0)) else (some (0,3))) else (none)) = some (r1,r2) := by first | (rw [hji7] at H;exact H) | (simp only [hji7] at H ⊢;exact H)
    (try rw [hji7] at A3)
    have hji7w : (IntKind.i64.wrap (8 * a0_1)) = ji7 := (i64_w _).trans hji7
    by_cases c8 : 0 ≤ (ji7)
    ·rw [if_pos c8] at H
     have c8b0 := eq_true c8
     have c8b1 : decide (0 ≤ (ji7)) = true := decide_eq_true c8
     clear c8
     obtain ⟨ji9,hji9⟩ : ∃ j_ : Int,(shr .u64 a1_0 (ji7)) = j_ := ⟨_,rfl⟩
     replace H : (if (ji9) = 0 then (some (a0_1,0)) else (some (0,3))) = some (r1,r2) := by first | (rw [hji9] at H;exact H) | (simp only [hji9] at H ⊢;exact H)
     (try rw [hji9] at A3)
     have hji9_ : (a1_0 / 2 ^ min (ji7).toNat 64) = ji9 := hji9
     have hji9z : (ji7) ≤ 64 → (a1_0 / 2 ^ (ji7).toNat) = ji9 := shr_small hji9
     by_cases c10 : (ji9) = 0
     ·rw [if_pos c10] at H
      have c10b0 : ((ji9) == 0) = true := beq_iff_eq.mpr c10
      have c10b1 : ((ji9) != 0) = false := bne_eq_false_iff_eq.mpr c10
      clear c10
      simp only [Option.some.injEq,Prod.mk.injEq] at H
      obtain ⟨rfl,rfl⟩ := H
      go_enter Try.func66,Try.ntmps66
      go_wp2_with (first | ((with_reducible refine gate_dst (N := 2) rfl ?_);(try (refine gate_guard (by rfl) ?_;dsimp only));refine box_event ?hg (N := 2) ?hd (cs := #[.int .i64 a0_0,.int .i64 a0_1,.int .i64 a0_2,.int .i64 a0_3,.int .i64 a0_4,.slice A0_5 l0_5.length c0_5]) (t := 27) ?hr ?_;(case hd => rfl);(case hg => rfl);(case hr => first | (go_simp;done) | (go_simp;rfl));intro gb241 hg w11 hbox hb;have n0_ := Aside0.mk (below_step (by repeat (first | (with_reducible first | exact HB.out | apply below_alloc | apply pw_below_drewN | apply below_drew1) | exact HB.out)) hb);have n1_ := Aside0.mk (hbox);have n2_ := Aside0.mk ((by rw [hg];exact (below_size (by repeat (first | (with_reducible first | exact HB.out | apply below_alloc | apply pw_below_drewN | apply below_drew1) | exact HB.out))) : w.heap.size ≤ gb241));have n3_ := Aside0.mk ((by rw [hg];exact (below_size (by repeat (first | (with_reducible first | exact HB.out | apply below_alloc | apply pw_below_drewN | apply below_drew1) | exact HB.out))) : w.heap.size ≤ gb241));clear HB;have HB := n0_;have BK241 := n1_;have GW241 := n2_;have GE241 := n3_;clear n0_ n1_ n2_ n3_;clear hb hbox hg) | ((with_reducible refine gate_dst (N := 3) rfl ?_);(try (refine gate_guard (by rfl) ?_;dsimp only));refine box_event ?hg (N := 3) ?hd (cs := #[.int .u64 a1_0,.slice A1_1 l1_1.length c1_1,.slice A1_2 l1_2.length c1_2]) (t := 46) ?hr ?_;(case hd => rfl);(case hg => rfl);(case hr => first | (go_simp;done) | (go_simp;rfl));intro gb242 hg w12 hbox hb;have n0_ := Aside0.mk (blk_below (g := gb241) (o := .cells #[.int .i64 a0_0,.int .i64 a0_1,.int .i64 a0_2,.int .i64 a0_3,.int .i64 a0_4,.slice A0_5 l0_5.length c0_5] 27 (0,0)) (by (with_reducible repeat (first | refine blk_drewN ?_ _ | refine blk_drew ?_ | refine blk_alloc ?_ _));exact BK241.out) hb);have n1_ := Aside0.mk (below_step (by repeat (first | (with_reducible first | exact HB.out | apply below_alloc | apply pw_below_drewN | apply below_drew1 | refine below_set ?_ GE241.out) | exact HB.out)) hb);have n2_ := Aside0.mk (hbox);have n3_ := Aside0.mk ((by rw [hg];exact (below_size (by repeat (first | (with_reducible first | exact HB.out | apply below_alloc | apply pw_below_drewN | apply below_drew1 | refine below_set ?_ GE241.out) | exact HB.out))) : w.heap.size ≤ gb242));have n4_ := Aside0.mk ((by rw [hg];exact (below_size (by repeat (first | (with_reducible first | exact HB.out | apply below_alloc | apply pw_below_drewN | apply below_drew1 | refine below_set ?_ GE241.out) | exact HB.out))) : w.heap.size ≤ gb242));have n5_ := Aside0.mk ((by rw [hg];exact Nat.ne_of_lt (blk_lt (g := gb241) (o := .cells #[.int .i64 a0_0,.int .i64 a0_1,.int .i64 a0_2,.int .i64 a0_3,.int .i64 a0_4,.slice A0_5 l0_5.length c0_5] 27 (0,0)) (by (with_reducible repeat (first | refine blk_drewN ?_ _ | refine blk_drew ?_ | refine blk_alloc ?_ _));exact BK241.out)) : gb241 ≠ gb242));have n6_ := Aside0.mk ((by rw [hg];exact Nat.ne_of_gt (blk_lt (g := gb241) (o := .cells #[.int .i64 a0_0,.int .i64 a0_1,.int .i64 a0_2,.int .i64 a0_3,.int .i64 a0_4,.slice A0_5 l0_5.length c0_5] 27 (0,0)) (by (with_reducible repeat (first | refine blk_drewN ?_ _ | refine blk_drew ?_ | refine blk_alloc ?_ _));exact BK241.out)) : gb242 ≠ gb241));clear BK241;clear HB;have BK241 := n0_;have HB := n1_;have BK242 := n2_;have GW242 := n3_;have GE242 := n4_;have NB241_242 := n5_;have NB242_241 := n6_;clear n0_ n1_ n2_ n3_ n4_ n5_ n6_;clear hb hbox hg;have hnb13 := NB241_242.out;have hnc13 := NB242_241.out;have hcz14_0 : w12.cell? ⟨gb241,0,none⟩ = some (.int .i64 a0_0) := (blk_cell BK241.out 0).trans rfl;have hcz14_1 : w12.cell? ⟨gb241,1,none⟩ = some (.int .i64 a0_1) := (blk_cell BK241.out 1).trans rfl;have hcz14_2 : w12.cell? ⟨gb241,2,none⟩ = some (.int .i64 a0_2) := (blk_cell BK241.out 2).trans rfl;have hcz14_3 : w12.cell? ⟨gb241,3,none⟩ = some (.int .i64 a0_3) := (blk_cell BK241.out 3).trans rfl;have hcz14_4 : w12.cell? ⟨gb241,4,none⟩ = some (.int .i64 a0_4) := (blk_cell BK241.out 4).trans rfl;have hcz14_5 : w12.cell? ⟨gb241,5,none⟩ = some (.slice A0_5 l0_5.length c0_5) := (blk_cell BK241.out 5).trans rfl;have hfz14_0 := blk_frozen BK241.out 0;have hfz14_1 := blk_frozen BK241.out 1;have hfz14_2 := blk_frozen BK241.out 2;have hfz14_3 := blk_frozen BK241.out 3;have hfz14_4 := blk_frozen BK241.out 4;have hfz14_5 := blk_frozen BK241.out 5;have hcz15_0 : w12.cell? ⟨gb242,0,none⟩ = some (.int .u64 a1_0) := (blk_cell BK242.out 0).trans rfl;have hcz15_1 : w12.cell? ⟨gb242,1,none⟩ = some (.slice A1_1 l1_1.length c1_1) := (blk_cell BK242.out 1).trans rfl;have hcz15_2 : w12.cell? ⟨gb242,2,none⟩ = some (.slice A1_2 l1_2.length c1_2) := (blk_cell BK242.out 2).trans rfl;have hfz15_0 := blk_frozen BK242.out 0;have hfz15_1 := blk_frozen BK242.out 1;have hfz15_2 := blk_frozen BK242.out 2) | ((with_reducible refine gate_callee (f := 70) rfl ?_);refine goesL_ (some 14) rfl rfl Try.func70 (by kernel_rfl) rfl #[.int .i64 a0_0,.agg #[.int .u64 a1_0,.slice A1_1 l1_1.length c1_1,.slice A1_2 l1_2.length c1_2]] rfl (by (try simp only [List.map_toArray,List.map_cons,List.map_nil]);first | done | rfl | (simp only [List.length_drop,List.length_take];rfl)) ?_;(with_reducible refine (value_alone.calls a0_0 a1_0 _ _ l1_1 _ _ l1_2 true _ ?side1 ?side2 ?side3 ?side4 A3.out).mono ?_);(case side1 => repeat (first | exact (Kd.C_below HR1_1.out HB.out) | (with_reducible refine Kd.C_alloc ?_ _) | (with_reducible refine Kd.C_drewN ?_ _) | (with_reducible refine Kd.C_drew ?_)));(case side2 => exact HC1_1.out);(case side3 => repeat (first | exact (Kd.C_below HR1_2.out HB.out) | (with_reducible refine Kd.C_alloc ?_ _) | (with_reducible refine Kd.C_drewN ?_ _) | (with_reducible refine Kd.C_drew ?_)));(case side4 => exact HC1_2.out);rintro e w16 ⟨rfl,hb⟩;refine ⟨_,rfl,?_⟩;have n0_ := Aside0.mk (blk_below (g := gb241) (o := .cells #[.int .i64 a0_0,.int .i64 a0_1,.int .i64 a0_2,.int .i64 a0_3,.int .i64 a0_4,.slice A0_5 l0_5.length c0_5] 27 (0,0)) (by (with_reducible repeat (first | refine blk_drewN ?_ _ | refine blk_drew ?_ | refine blk_alloc ?_ _));exact BK241.out) hb);have n1_ := Aside0.mk (blk_below (g := gb242) (o := .cells #[.int .u64 a1_0,.slice A1_1 l1_1.length c1_1,.slice A1_2 l1_2.length c1_2] 46 (0,0)) (by (with_reducible repeat (first | refine blk_drewN ?_ _ | refine blk_drew ?_ | refine blk_alloc ?_ _));exact BK242.out) hb);have n2_ := Aside0.mk (below_step (by repeat (first | (with_reducible first | exact HB.out | apply below_alloc | apply pw_below_drewN | apply below_drew1 | refine below_set ?_ GE241.out | refine below_set ?_ GE242.out) | exact HB.out)) hb);clear BK241;clear BK242;clear HB;have BK241 := n0_;have BK242 := n1_;have HB := n2_;clear n0_ n1_ n2_;(try clear hb);(try clear hb2);(try clear hk);(try clear hi);have hcz17_0 : w16.cell? ⟨gb241,0,none⟩ = some (.int .i64 a0_0) := (blk_cell BK241.out 0).trans rfl;have hcz17_1 : w16.cell? ⟨gb241,1,none⟩ = some (.int .i64 a0_1) := (blk_cell BK241.out 1).trans rfl;have hcz17_2 : w16.cell? ⟨gb241,2,none⟩ = some (.int .i64 a0_2) := (blk_cell BK241.out 2).trans rfl;have hcz17_3 : w16.cell? ⟨gb241,3,none⟩ = some (.int .i64 a0_3) := (blk_cell BK241.out 3).trans rfl;have hcz17_4 : w16.cell? ⟨gb241,4,none⟩ = some (.int .i64 a0_4) := (blk_cell BK241.out 4).trans rfl;have hcz17_5 : w16.cell? ⟨gb241,5,none⟩ = some (.slice A0_5 l0_5.length c0_5) := (blk_cell BK241.out 5).trans rfl;have hfz17_0 := blk_frozen BK241.out 0;have hfz17_1 := blk_frozen BK241.out 1;have hfz17_2 := blk_frozen BK241.out 2;have hfz17_3 := blk_frozen BK241.out 3;have hfz17_4 := blk_frozen BK241.out 4;have hfz17_5 := blk_frozen BK241.out 5;have hcz18_0 : w16.cell? ⟨gb242,0,none⟩ = some (.int .u64 a1_0) := (blk_cell BK242.out 0).trans rfl;have hcz18_1 : w16.cell? ⟨gb242,1,none⟩ = some (.slice A1_1 l1_1.length c1_1) := (blk_cell BK242.out 1).trans rfl;have hcz18_2 : w16.cell? ⟨gb242,2,none⟩ = some (.slice A1_2 l1_2.length c1_2) := (blk_cell BK242.out 2).trans rfl;have hfz18_0 := blk_frozen BK242.out 0;have hfz18_1 := blk_frozen BK242.out 1;have hfz18_2 := blk_frozen BK242.out 2))
      go_ret2
      exact ⟨by first | rfl | (simp [errW_none,errW_some] <;> rfl) | (simp only [← hji7,← hji9];first | rfl | (simp [errW_none,errW_some] <;> rfl)) | (simp [*,errW_none,errW_some] <;> rfl),by repeat (first | (with_reducible first | exact HB.out | apply below_alloc | apply pw_below_drewN | apply below_drew1 | refine below_set ?_ GE241.out | refine below_set ?_ GE242.out) | exact HB.out)⟩
     ·rw [if_neg c10] at H
      have c10b0 : ((ji9) == 0) = false := beq_eq_false_iff_ne.mpr c10
      have c10b1 : ((ji9) != 0) = true := bne_iff_ne.mpr c10
      simp only [Option.some.injEq,Prod.mk.injEq] at H
      obtain ⟨rfl,rfl⟩ := H
      go_enter Try.func66,Try.ntmps66
      go_wp2_with (first | ((with_reducible refine gate_dst (N := 2) rfl ?_);(try (refine gate_guard (by rfl) ?_;dsimp only));refine box_event ?hg (N := 2) ?hd (cs := #[.int .i64 a0_0,.int .i64 a0_1,.int .i64 a0_2,.int .i64 a0_3,.int .i64 a0_4,.slice A0_5 l0_5.length c0_5]) (t := 27) ?hr ?_;(case hd => rfl);(case hg => rfl);(case hr => first | (go_simp;done) | (go_simp;rfl));intro gb241 hg w19 hbox hb;have n0_ := Aside0.mk (below_step (by repeat (first | (with_reducible first | exact HB.out | apply below_alloc | apply pw_below_drewN | apply below_drew1) | exact HB.out)) hb);have n1_ := Aside0.mk (hbox);have n2_ := Aside0.mk ((by rw [hg];exact (below_size (by repeat (first | (with_reducible first | exact HB.out | apply below_alloc | apply pw_below_drewN | apply below_drew1) | exact HB.out))) : w.heap.size ≤ gb241));have n3_ := Aside0.mk ((by rw [hg];exact (below_size (by repeat (first | (with_reducible first | exact HB.out | apply below_alloc | apply pw_below_drewN | apply below_drew1) | exact HB.out))) : w.heap.size ≤ gb241));clear HB;have HB := n0_;have BK241 := n1_;have GW241 := n2_;have GE241 := n3_;clear n0_ n1_ n2_ n3_;clear hb hbox hg) | ((with_reducible refine gate_dst (N := 3) rfl ?_);(try (refine gate_guard (by rfl) ?_;dsimp only));refine box_event ?hg (N := 3) ?hd (cs := #[.int .u64 a1_0,.slice A1_1 l1_1.length c1_1,.slice A1_2 l1_2.length c1_2]) (t := 46) ?hr ?_;(case hd => rfl);(case hg => rfl);(case hr => first | (go_simp;done) | (go_simp;rfl));intro gb242 hg w20 hbox hb;have n0_ := Aside0.mk (blk_below (g := gb241) (o := .cells #[.int .i64 a0_0,.int .i64 a0_1,.int .i64 a0_2,.int .i64 a0_3,.int .i64 a0_4,.slice A0_5 l0_5.length c0_5] 27 (0,0)) (by (with_reducible repeat (first | refine blk_drewN ?_ _ | refine blk_drew ?_ | refine blk_alloc ?_ _));exact BK241.out) hb);have n1_ := Aside0.mk (below_step (by repeat (first | (with_reducible first | exact HB.out | apply below_alloc | apply pw_below_drewN | apply below_drew1 | refine below_set ?_ GE241.out) | exact HB.out)) hb);have n2_ := Aside0.mk (hbox);have n3_ := Aside0.mk ((by rw [hg];exact (below_size (by repeat (first | (with_reducible first | exact HB.out | apply below_alloc | apply pw_below_drewN | apply below_drew1 | refine below_set ?_ GE241.out) | exact HB.out))) : w.heap.size ≤ gb242));have n4_ := Aside0.mk ((by rw [hg];exact (below_size (by repeat (first | (with_reducible first | exact HB.out | apply below_alloc | apply pw_below_drewN | apply below_drew1 | refine below_set ?_ GE241.out) | exact HB.out))) : w.heap.size ≤ gb242));have n5_ := Aside0.mk ((by rw [hg];exact Nat.ne_of_lt (blk_lt (g := gb241) (o := .cells #[.int .i64 a0_0,.int .i64 a0_1,.int .i64 a0_2,.int .i64 a0_3,.int .i64 a0_4,.slice A0_5 l0_5.length c0_5] 27 (0,0)) (by (with_reducible repeat (first | refine blk_drewN ?_ _ | refine blk_drew ?_ | refine blk_alloc ?_ _));exact BK241.out)) : gb241 ≠ gb242));have n6_ := Aside0.mk ((by rw [hg];exact Nat.ne_of_gt (blk_lt (g := gb241) (o := .cells #[.int .i64 a0_0,.int .i64 a0_1,.int .i64 a0_2,.int .i64 a0_3,.int .i64 a0_4,.slice A0_5 l0_5.length c0_5] 27 (0,0)) (by (with_reducible repeat (first | refine blk_drewN ?_ _ | refine blk_drew ?_ | refine blk_alloc ?_ _));exact BK241.out)) : gb242 ≠ gb241));clear BK241;clear HB;have BK241 := n0_;have HB := n1_;have BK242 := n2_;have GW242 := n3_;have GE242 := n4_;have NB241_242 := n5_;have NB242_241 := n6_;clear n0_ n1_ n2_ n3_ n4_ n5_ n6_;clear hb hbox hg;have hnb21 := NB241_242.out;have hnc21 := NB242_241.out;have hcz22_0 : w20.cell? ⟨gb241,0,none⟩ = some (.int .i64 a0_0) := (blk_cell BK241.out 0).trans rfl;have hcz22_1 : w20.cell? ⟨gb241,1,none⟩ = some (.int .i64 a0_1) := (blk_cell BK241.out 1).trans rfl;have hcz22_2 : w20.cell? ⟨gb241,2,none⟩ = some (.int .i64 a0_2) := (blk_cell BK241.out 2).trans rfl;have hcz22_3 : w20.cell? ⟨gb241,3,none⟩ = some (.int .i64 a0_3) := (blk_cell BK241.out 3).trans rfl;have hcz22_4 : w20.cell? ⟨gb241,4,none⟩ = some (.int .i64 a0_4) := (blk_cell BK241.out 4).trans rfl;have hcz22_5 : w20.cell? ⟨gb241,5,none⟩ = some (.slice A0_5 l0_5.length c0_5) := (blk_cell BK241.out 5).trans rfl;have hfz22_0 := blk_frozen BK241.out 0;have hfz22_1 := blk_frozen BK241.out 1;have hfz22_2 := blk_frozen BK241.out 2;have hfz22_3 := blk_frozen BK241.out 3;have hfz22_4 := blk_frozen BK241.out 4;have hfz22_5 := blk_frozen BK241.out 5;have hcz23_0 : w20.cell? ⟨gb242,0,none⟩ = some (.int .u64 a1_0) := (blk_cell BK242.out 0).trans rfl;have hcz23_1 : w20.cell? ⟨gb242,1,none⟩ = some (.slice A1_1 l1_1.length c1_1) := (blk_cell BK242.out 1).trans rfl;have hcz23_2 : w20.cell? ⟨gb242,2,none⟩ = some (.slice A1_2 l1_2.length c1_2) := (blk_cell BK242.out 2).trans rfl;have hfz23_0 := blk_frozen BK242.out 0;have hfz23_1 := blk_frozen BK242.out 1;have hfz23_2 := blk_frozen BK242.out 2) | ((with_reducible refine gate_callee (f := 70) rfl ?_);refine goesL_ (some 14) rfl rfl Try.func70 (by kernel_rfl) rfl #[.int .i64 a0_0,.agg #[.int .u64 a1_0,.slice A1_1 l1_1.length c1_1,.slice A1_2 l1_2.length c1_2]] rfl (by (try simp only [List.map_toArray,List.map_cons,List.map_nil]);first | done | rfl | (simp only [List.length_drop,List.length_take];rfl)) ?_;(with_reducible refine (value_alone.calls a0_0 a1_0 _ _ l1_1 _ _ l1_2 true _ ?side1 ?side2 ?side3 ?side4 A3.out).mono ?_);(case side1 => repeat (first | exact (Kd.C_below HR1_1.out HB.out) | (with_reducible refine Kd.C_alloc ?_ _) | (with_reducible refine Kd.C_drewN ?_ _) | (with_reducible refine Kd.C_drew ?_)));(case side2 => exact HC1_1.out);(case side3 => repeat (first | exact (Kd.C_below HR1_2.out HB.out) | (with_reducible refine Kd.C_alloc ?_ _) | (with_reducible refine Kd.C_drewN ?_ _) | (with_reducible refine Kd.C_drew ?_)));(case side4 => exact HC1_2.out);rintro e w24 ⟨rfl,hb⟩;refine ⟨_,rfl,?_⟩;have n0_ := Aside0.mk (blk_below (g := gb241) (o := .cells #[.int .i64 a0_0,.int .i64 a0_1,.int .i64 a0_2,.int .i64 a0_3,.int .i64 a0_4,.slice A0_5 l0_5.length c0_5] 27 (0,0)) (by (with_reducible repeat (first | refine blk_drewN ?_ _ | refine blk_drew ?_ | refine blk_alloc ?_ _));exact BK241.out) hb);have n1_ := Aside0.mk (blk_below (g := gb242) (o := .cells #[.int .u64 a1_0,.slice A1_1 l1_1.length c1_1,.slice A1_2 l1_2.length c1_2] 46 (0,0)) (by (with_reducible repeat (first | refine blk_drewN ?_ _ | refine blk_drew ?_ | refine blk_alloc ?_ _));exact BK242.out) hb);have n2_ := Aside0.mk (below_step (by repeat (first | (with_reducible first | exact HB.out | apply below_alloc | apply pw_below_drewN | apply below_drew1 | refine below_set ?_ GE241.out | refine below_set ?_ GE242.out) | exact HB.out)) hb);clear BK241;clear BK242;clear HB;have BK241 := n0_;have BK242 := n1_;have HB := n2_;clear n0_ n1_ n2_;(try clear hb);(try clear hb2);(try clear hk);(try clear hi);have hcz25_0 : w24.cell? ⟨gb241,0,none⟩ = some (.int .i64 a0_0) := (blk_cell BK241.out 0).trans rfl;have hcz25_1 : w24.cell? ⟨gb241,1,none⟩ = some (.int .i64 a0_1) := (blk_cell BK241.out 1).trans rfl;have hcz25_2 : w24.cell? ⟨gb241,2,none⟩ = some (.int .i64 a0_2) := (blk_cell BK241.out 2).trans rfl;have hcz25_3 : w24.cell? ⟨gb241,3,none⟩ = some (.int .i64 a0_3) := (blk_cell BK241.out 3).trans rfl;have hcz25_4 : w24.cell? ⟨gb241,4,none⟩ = some (.int .i64 a0_4) := (blk_cell BK241.out 4).trans rfl;have hcz25_5 : w24.cell? ⟨gb241,5,none⟩ = some (.slice A0_5 l0_5.length c0_5) := (blk_cell BK241.out 5).trans rfl;have hfz25_0 := blk_frozen BK241.out 0;have hfz25_1 := blk_frozen BK241.out 1;have hfz25_2 := blk_frozen BK241.out 2;have hfz25_3 := blk_frozen BK241.out 3;have hfz25_4 := blk_frozen BK241.out 4;have hfz25_5 := blk_frozen BK241.out 5;have hcz26_0 : w24.cell? ⟨gb242,0,none⟩ = some (.int .u64 a1_0) := (blk_cell BK242.out 0).trans rfl;have hcz26_1 : w24.cell? ⟨gb242,1,none⟩ = some (.slice A1_1 l1_1.length c1_1) := (blk_cell BK242.out 1).trans rfl;have hcz26_2 : w24.cell? ⟨gb242,2,none⟩ = some (.slice A1_2 l1_2.length c1_2) := (blk_cell BK242.out 2).trans rfl;have hfz26_0 := blk_frozen BK242.out 0;have hfz26_1 := blk_frozen BK242.out 1;have hfz26_2 := blk_frozen BK242.out 2))
      go_ret2
      exact ⟨by first | rfl | (simp [errW_none,errW_some] <;> rfl) | (simp only [← hji7,← hji9];first | rfl | (simp [errW_none,errW_some] <;> rfl)) | (simp [*,errW_none,errW_some] <;> rfl),by repeat (first | (with_reducible first | exact HB.out | apply below_alloc | apply pw_below_drewN | apply below_drew1 | refine below_set ?_ GE241.out | refine below_set ?_ GE242.out) | exact HB.out)⟩
    ·rw [if_neg c8] at H
     exact absurd H (by simp)
   ·rw [if_neg c6] at H
    have c6b0 : decide (a0_1 < 8) = false := decide_eq_false c6
    clear c6
    simp only [Option.some.injEq,Prod.mk.injEq] at H
    obtain ⟨rfl,rfl⟩ := H
    go_enter Try.func66,Try.ntmps66
    go_wp2_with (first | ((with_reducible refine gate_dst (N := 2) rfl ?_);(try (refine gate_guard (by rfl) ?_;dsimp only));refine box_event ?hg (N := 2) ?hd (cs := #[.int .i64 a0_0,.int .i64 a0_1,.int .i64 a0_2,.int .i64 a0_3,.int .i64 a0_4,.slice A0_5 l0_5.length c0_5]) (t := 27) ?hr ?_;(case hd => rfl);(case hg => rfl);(case hr => first | (go_simp;done) | (go_simp;rfl));intro gb241 hg w27 hbox hb;have n0_ := Aside0.mk (below_step (by repeat (first | (with_reducible first | exact HB.out | apply below_alloc | apply pw_below_drewN | apply below_drew1) | exact HB.out)) hb);have n1_ := Aside0.mk (hbox);have n2_ := Aside0.mk ((by rw [hg];exact (below_size (by repeat (first | (with_reducible first | exact HB.out | apply below_alloc | apply pw_below_drewN | apply below_drew1) | exact HB.out))) : w.heap.size ≤ gb241));have n3_ := Aside0.mk ((by rw [hg];exact (below_size (by repeat (first | (with_reducible first | exact HB.out | apply below_alloc | apply pw_below_drewN | apply below_drew1) | exact HB.out))) : w.heap.size ≤ gb241));clear HB;have HB := n0_;have BK241 := n1_;have GW241 := n2_;have GE241 := n3_;clear n0_ n1_ n2_ n3_;clear hb hbox hg) | ((with_reducible refine gate_dst (N := 3) rfl ?_);(try (refine gate_guard (by rfl) ?_;dsimp only));refine box_event ?hg (N := 3) ?hd (cs := #[.int .u64 a1_0,.slice A1_1 l1_1.length c1_1,.slice A1_2 l1_2.length c1_2]) (t := 46) ?hr ?_;(case hd => rfl);(case hg => rfl);(case hr => first | (go_simp;done) | (go_simp;rfl));intro gb242 hg w28 hbox hb;have n0_ := Aside0.mk (blk_below (g := gb241) (o := .cells #[.int .i64 a0_0,.int .i64 a0_1,.int .i64 a0_2,.int .i64 a0_3,.int .i64 a0_4,.slice A0_5 l0_5.length c0_5] 27 (0,0)) (by (with_reducible repeat (first | refine blk_drewN ?_ _ | refine blk_drew ?_ | refine blk_alloc ?_ _));exact BK241.out) hb);have n1_ := Aside0.mk (below_step (by repeat (first | (with_reducible first | exact HB.out | apply below_alloc | apply pw_below_drewN | apply below_drew1 | refine below_set ?_ GE241.out) | exact HB.out)) hb);have n2_ := Aside0.mk (hbox);have n3_ := Aside0.mk ((by rw [hg];exact (below_size (by repeat (first | (with_reducible first | exact HB.out | apply below_alloc | apply pw_below_drewN | apply below_drew1 | refine below_set ?_ GE241.out) | exact HB.out))) : w.heap.size ≤ gb242));have n4_ := Aside0.mk ((by rw [hg];exact (below_size (by repeat (first | (with_reducible first | exact HB.out | apply below_alloc | apply pw_below_drewN | apply below_drew1 | refine below_set ?_ GE241.out) | exact HB.out))) : w.heap.size ≤ gb242));have n5_ := Aside0.mk ((by rw [hg];exact Nat.ne_of_lt (blk_lt (g := gb241) (o := .cells #[.int .i64 a0_0,.int .i64 a0_1,.int .i64 a0_2,.int .i64 a0_3,.int .i64 a0_4,.slice A0_5 l0_5.length c0_5] 27 (0,0)) (by (with_reducible repeat (first | refine blk_drewN ?_ _ | refine blk_drew ?_ | refine blk_alloc ?_ _));exact BK241.out)) : gb241 ≠ gb242));have n6_ := Aside0.mk ((by rw [hg];exact Nat.ne_of_gt (blk_lt (g := gb241) (o := .cells #[.int .i64 a0_0,.int .i64 a0_1,.int .i64 a0_2,.int .i64 a0_3,.int .i64 a0_4,.slice A0_5 l0_5.length c0_5] 27 (0,0)) (by (with_reducible repeat (first | refine blk_drewN ?_ _ | refine blk_drew ?_ | refine blk_alloc ?_ _));exact BK241.out)) : gb242 ≠ gb241));clear BK241;clear HB;have BK241 := n0_;have HB := n1_;have BK242 := n2_;have GW242 := n3_;have GE242 := n4_;have NB241_242 := n5_;have NB242_241 := n6_;clear n0_ n1_ n2_ n3_ n4_ n5_ n6_;clear hb hbox hg;have hnb29 := NB241_242.out;have hnc29 := NB242_241.out;have hcz30_0 : w28.cell? ⟨gb241,0,none⟩ = some (.int .i64 a0_0) := (blk_cell BK241.out 0).trans rfl;have hcz30_1 : w28.cell? ⟨gb241,1,none⟩ = some (.int .i64 a0_1) := (blk_cell BK241.out 1).trans rfl;have hcz30_2 : w28.cell? ⟨gb241,2,none⟩ = some (.int .i64 a0_2) := (blk_cell BK241.out 2).trans rfl;have hcz30_3 : w28.cell? ⟨gb241,3,none⟩ = some (.int .i64 a0_3) := (blk_cell BK241.out 3).trans rfl;have hcz30_4 : w28.cell? ⟨gb241,4,none⟩ = some (.int .i64 a0_4) := (blk_cell BK241.out 4).trans rfl;have hcz30_5 : w28.cell? ⟨gb241,5,none⟩ = some (.slice A0_5 l0_5.length c0_5) := (blk_cell BK241.out 5).trans rfl;have hfz30_0 := blk_frozen BK241.out 0;have hfz30_1 := blk_frozen BK241.out 1;have hfz30_2 := blk_frozen BK241.out 2;have hfz30_3 := blk_frozen BK241.out 3;have hfz30_4 := blk_frozen BK241.out 4;have hfz30_5 := blk_frozen BK241.out 5;have hcz31_0 : w28.cell? ⟨gb242,0,none⟩ = some (.int .u64 a1_0) := (blk_cell BK242.out 0).trans rfl;have hcz31_1 : w28.cell? ⟨gb242,1,none⟩ = some (.slice A1_1 l1_1.length c1_1) := (blk_cell BK242.out 1).trans rfl;have hcz31_2 : w28.cell? ⟨gb242,2,none⟩ = some (.slice A1_2 l1_2.length c1_2) := (blk_cell BK242.out 2).trans rfl;have hfz31_0 := blk_frozen BK242.out 0;have hfz31_1 := blk_frozen BK242.out 1;have hfz31_2 := blk_frozen BK242.out 2) | ((with_reducible refine gate_callee (f := 70) rfl ?_);refine goesL_ (some 14) rfl rfl Try.func70 (by kernel_rfl) rfl #[.int .i64 a0_0,.agg #[.int .u64 a1_0,.slice A1_1 l1_1.length c1_1,.slice A1_2 l1_2.length c1_2]] rfl (by (try simp only [List.map_toArray,List.map_cons,List.map_nil]);first | done | rfl | (simp only [List.length_drop,List.length_take];rfl)) ?_;(with_reducible refine (value_alone.calls a0_0 a1_0 _ _ l1_1 _ _ l1_2 true _ ?side1 ?side2 ?side3 ?side4 A3.out).mono ?_);(case side1 => repeat (first | exact (Kd.C_below HR1_1.out HB.out) | (with_reducible refine Kd.C_alloc ?_ _) | (with_reducible refine Kd.C_drewN ?_ _) | (with_reducible refine Kd.C_drew ?_)));(case side2 => exact HC1_1.out);(case side3 => repeat (first | exact (Kd.C_below HR1_2.out HB.out) | (with_reducible refine Kd.C_alloc ?_ _) | (with_reducible refine Kd.C_drewN ?_ _) | (with_reducible refine Kd.C_drew ?_)));(case side4 => exact HC1_2.out);rintro e w32 ⟨rfl,hb⟩;refine ⟨_,rfl,?_⟩;have n0_ := Aside0.mk (blk_below (g := gb241) (o := .cells #[.int .i64 a0_0,.int .i64 a0_1,.int .i64 a0_2,.int .i64 a0_3,.int .i64 a0_4,.slice A0_5 l0_5.length c0_5] 27 (0,0)) (by (with_reducible repeat (first | refine blk_drewN ?_ _ | refine blk_drew ?_ | refine blk_alloc ?_ _));exact BK241.out) hb);have n1_ := Aside0.mk (blk_below (g := gb242) (o := .cells #[.int .u64 a1_0,.slice A1_1 l1_1.length c1_1,.slice A1_2 l1_2.length c1_2] 46 (0,0)) (by (with_reducible repeat (first | refine blk_drewN ?_ _ | refine blk_drew ?_ | refine blk_alloc ?_ _));exact BK242.out) hb);have n2_ := Aside0.mk (below_step (by repeat (first | (with_reducible first | exact HB.out | apply below_alloc | apply pw_below_drewN | apply below_drew1 | refine below_set ?_ GE241.out | refine below_set ?_ GE242.out) | exact HB.out)) hb);clear BK241;clear BK242;clear HB;have BK241 := n0_;have BK242 := n1_;have HB := n2_;clear n0_ n1_ n2_;(try clear hb);(try clear hb2);(try clear hk);(try clear hi);have hcz33_0 : w32.cell? ⟨gb241,0,none⟩ = some (.int .i64 a0_0) := (blk_cell BK241.out 0).trans rfl;have hcz33_1 : w32.cell? ⟨gb241,1,none⟩ = some (.int .i64 a0_1) := (blk_cell BK241.out 1).trans rfl;have hcz33_2 : w32.cell? ⟨gb241,2,none⟩ = some (.int .i64 a0_2) := (blk_cell BK241.out 2).trans rfl;have hcz33_3 : w32.cell? ⟨gb241,3,none⟩ = some (.int .i64 a0_3) := (blk_cell BK241.out 3).trans rfl;have hcz33_4 : w32.cell? ⟨gb241,4,none⟩ = some (.int .i64 a0_4) := (blk_cell BK241.out 4).trans rfl;have hcz33_5 : w32.cell? ⟨gb241,5,none⟩ = some (.slice A0_5 l0_5.length c0_5) := (blk_cell BK241.out 5).trans rfl;have hfz33_0 := blk_frozen BK241.out 0;have hfz33_1 := blk_frozen BK241.out 1;have hfz33_2 := blk_frozen BK241.out 2;have hfz33_3 := blk_frozen BK241.out 3;have hfz33_4 := blk_frozen BK241.out 4;have hfz33_5 := blk_frozen BK241.out 5))
    go_ret2
    exact ⟨by first | rfl | (simp [errW_none,errW_some] <;> rfl) | (simp [*,errW_none,errW_some] <;> rfl),by repeat (first | (with_reducible first | exact HB.out | apply below_alloc | apply pw_below_drewN | apply below_drew1 | refine below_set ?_ GE241.out | refine below_set ?_ GE242.out) | exact HB.out)⟩
  ·rw [if_neg c5] at H
   have c5b0 : (a0_0 == 0) = false := beq_eq_false_iff_ne.mpr c5
   have c5b1 : (a0_0 != 0) = true := bne_iff_ne.mpr c5
   by_cases c34 : a0_0 = 1
   ·rw [if_pos c34] at H
    have c34b0 : (a0_0 == 1) = true := beq_iff_eq.mpr c34
    have c34b1 : (a0_0 != 1) = false := bne_eq_false_iff_eq.mpr c34
    clear c34
    replace H := Option.bind_eq_some_iff.mp H
    obtain ⟨t244,A350,H⟩ := H
    replace H : (some (wrap64 (a0_1 + (l1_1.length : Int)),t244)) = some (r1,r2) := H
    have A35 := Aside0.mk A350
    clear A350
    simp only [Option.some.injEq,Prod.mk.injEq] at H
    obtain ⟨rfl,rfl⟩ := H
    go_enter Try.func66,Try.ntmps66
    try go_wp2_with (first | ((with_reducible refine gate_dst (N := 2) rfl ?_);(try (refine gate_guard (by rfl) ?_;dsimp only));refine box_event ?hg (N := 2) ?hd (cs := #[.int .i64 a0_0,.int .i64 a0_1,.int .i64 a0_2,.int .i64 a0_3,.int .i64 a0_4,.slice A0_5 l0_5.length c0_5]) (t := 27) ?hr ?_;(case hd => rfl);(case hg => rfl);(case hr => first | (go_simp;done) | (go_simp;rfl));intro gb241 hg w36 hbox hb;have n0_ := Aside0.mk (below_step (by repeat (first | (with_reducible first | exact HB.out | apply below_alloc | apply pw_below_drewN | apply below_drew1) | exact HB.out)) hb);have n1_ := Aside0.mk (hbox);have n2_ := Aside0.mk ((by rw [hg];exact (below_size (by repeat (first | (with_reducible first | exact HB.out | apply below_alloc | apply pw_below_drewN | apply below_drew1) | exact HB.out))) : w.heap.size ≤ gb241));have n3_ := Aside0.mk ((by rw [hg];exact (below_size (by repeat (first | (with_reducible first | exact HB.out | apply below_alloc | apply pw_below_drewN | apply below_drew1) | exact HB.out))) : w.heap.size ≤ gb241));clear HB;have HB := n0_;have BK241 := n1_;have GW241 := n2_;have GE241 := n3_;clear n0_ n1_ n2_ n3_;clear hb hbox hg) | ((with_reducible refine gate_dst (N := 3) rfl ?_);(try (refine gate_guard (by rfl) ?_;dsimp only));refine box_event ?hg (N := 3) ?hd (cs := #[.int .u64 a1_0,.slice A1_1 l1_1.length c1_1,.slice A1_2 l1_2.length c1_2]) (t := 46) ?hr ?_;(case hd => rfl);(case hg => rfl);(case hr => first | (go_simp;done) | (go_simp;rfl));intro gb242 hg w37 hbox hb;have n0_ := Aside0.mk (blk_below (g := gb241) (o := .cells #[.int .i64 a0_0,.int .i64 a0_1,.int .i64 a0_2,.int .i64 a0_3,.int .i64 a0_4,.slice A0_5 l0_5.length c0_5] 27 (0,0)) (by (with_reducible repeat (first | refine blk_drewN ?_ _ | refine blk_drew ?_ | refine blk_alloc ?_ _));exact BK241.out) hb);have n1_ := Aside0.mk (below_step (by repeat (first | (with_reducible first | exact HB.out | apply below_alloc | apply pw_below_drewN | apply below_drew1 | refine below_set ?_ GE241.out) | exact HB.out)) hb);have n2_ := Aside0.mk (hbox);have n3_ := Aside0.mk ((by rw [hg];exact (below_size (by repeat (first | (with_reducible first | exact HB.out | apply below_alloc | apply pw_below_drewN | apply below_drew1 | refine below_set ?_ GE241.out) | exact HB.out))) : w.heap.size ≤ gb242));have n4_ := Aside0.mk ((by rw [hg];exact (below_size (by repeat (first | (with_reducible first | exact HB.out | apply below_alloc | apply pw_below_drewN | apply below_drew1 | refine below_set ?_ GE241.out) | exact HB.out))) : w.heap.size ≤ gb242));have n5_ := Aside0.mk ((by rw [hg];exact Nat.ne_of_lt (blk_lt (g := gb241) (o := .cells #[.int .i64 a0_0,.int .i64 a0_1,.int .i64 a0_2,.int .i64 a0_3,.int .i64 a0_4,.slice A0_5 l0_5.length c0_5] 27 (0,0)) (by (with_reducible repeat (first | refine blk_drewN ?_ _ | refine blk_drew ?_ | refine blk_alloc ?_ _));exact BK241.out)) : gb241 ≠ gb242));have n6_ := Aside0.mk ((by rw [hg];exact Nat.ne_of_gt (blk_lt (g := gb241) (o := .cells #[.int .i64 a0_0,.int .i64 a0_1,.int .i64 a0_2,.int .i64 a0_3,.int .i64 a0_4,.slice A0_5 l0_5.length c0_5] 27 (0,0)) (by (with_reducible repeat (first | refine blk_drewN ?_ _ | refine blk_drew ?_ | refine blk_alloc ?_ _));exact BK241.out)) : gb242 ≠ gb241));clear BK241;clear HB;have BK241 := n0_;have HB := n1_;have BK242 := n2_;have GW242 := n3_;have GE242 := n4_;have NB241_242 := n5_;have NB242_241 := n6_;clear n0_ n1_ n2_ n3_ n4_ n5_ n6_;clear hb hbox hg;have hnb38 := NB241_242.out;have hnc38 := NB242_241.out;have hcz39_0 : w37.cell? ⟨gb241,0,none⟩ = some (.int .i64 a0_0) := (blk_cell BK241.out 0).trans rfl;have hcz39_1 : w37.cell? ⟨gb241,1,none⟩ = some (.int .i64 a0_1) := (blk_cell BK241.out 1).trans rfl;have hcz39_2 : w37.cell? ⟨gb241,2,none⟩ = some (.int .i64 a0_2) := (blk_cell BK241.out 2).trans rfl;have hcz39_3 : w37.cell? ⟨gb241,3,none⟩ = some (.int .i64 a0_3) := (blk_cell BK241.out 3).trans rfl;have hcz39_4 : w37.cell? ⟨gb241,4,none⟩ = some (.int .i64 a0_4) := (blk_cell BK241.out 4).trans rfl;have hcz39_5 : w37.cell? ⟨gb241,5,none⟩ = some (.slice A0_5 l0_5.length c0_5) := (blk_cell BK241.out 5).trans rfl;have hfz39_0 := blk_frozen BK241.out 0;have hfz39_1 := blk_frozen BK241.out 1;have hfz39_2 := blk_frozen BK241.out 2;have hfz39_3 := blk_frozen BK241.out 3;have hfz39_4 := blk_frozen BK241.out 4;have hfz39_5 := blk_frozen BK241.out 5;have hcz40_0 : w37.cell? ⟨gb242,0,none⟩ = some (.int .u64 a1_0) := (blk_cell BK242.out 0).trans rfl;have hcz40_1 : w37.cell? ⟨gb242,1,none⟩ = some (.slice A1_1 l1_1.length c1_1) := (blk_cell BK242.out 1).trans rfl;have hcz40_2 : w37.cell? ⟨gb242,2,none⟩ = some (.slice A1_2 l1_2.length c1_2) := (blk_cell BK242.out 2).trans rfl;have hfz40_0 := blk_frozen BK242.out 0;have hfz40_1 := blk_frozen BK242.out 1;have hfz40_2 := blk_frozen BK242.out 2) | ((with_reducible refine gate_callee (f := 70) rfl ?_);refine goesL_ (some 14) rfl rfl Try.func70 (by kernel_rfl) rfl #[.int .i64 a0_0,.agg #[.int .u64 a1_0,.slice A1_1 l1_1.length c1_1,.slice A1_2 l1_2.length c1_2]] rfl (by (try simp only [List.map_toArray,List.map_cons,List.map_nil]);first | done | rfl | (simp only [List.length_drop,List.length_take];rfl)) ?_;(with_reducible refine (value_alone.calls a0_0 a1_0 _ _ l1_1 _ _ l1_2 true _ ?side1 ?side2 ?side3 ?side4 A3.out).mono ?_);(case side1 => repeat (first | exact (Kd.C_below HR1_1.out HB.out) | (with_reducible refine Kd.C_alloc ?_ _) | (with_reducible refine Kd.C_drewN ?_ _) | (with_reducible refine Kd.C_drew ?_)));(case side2 => exact HC1_1.out);(case side3 => repeat (first | exact (Kd.C_below HR1_2.out HB.out) | (with_reducible refine Kd.C_alloc ?_ _) | (with_reducible refine Kd.C_drewN ?_ _) | (with_reducible refine Kd.C_drew ?_)));(case side4 => exact HC1_2.out);rintro e w41 ⟨rfl,hb⟩;refine ⟨_,rfl,?_⟩;have n0_ := Aside0.mk (blk_below (g := gb241) (o := .cells #[.int .i64 a0_0,.int .i64 a0_1,.int .i64 a0_2,.int .i64 a0_3,.int .i64 a0_4,.slice A0_5 l0_5.length c0_5] 27 (0,0)) (by (with_reducible repeat (first | refine blk_drewN ?_ _ | refine blk_drew ?_ | refine blk_alloc ?_ _));exact BK241.out) hb);have n1_ := Aside0.mk (blk_below (g := gb242) (o := .cells #[.int .u64 a1_0,.slice A1_1 l1_1.length c1_1,.slice A1_2 l1_2.length c1_2] 46 (0,0)) (by (with_reducible repeat (first | refine blk_drewN ?_ _ | refine blk_drew ?_ | refine blk_alloc ?_ _));exact BK242.out) hb);have n2_ := Aside0.mk (below_step (by repeat (first | (with_reducible first | exact HB.out | apply below_alloc | apply pw_below_drewN | apply below_drew1 | refine below_set ?_ GE241.out | refine below_set ?_ GE242.out) | exact HB.out)) hb);clear BK241;clear BK242;clear HB;have BK241 := n0_;have BK242 := n1_;have HB := n2_;clear n0_ n1_ n2_;(try clear hb);(try clear hb2);(try clear hk);(try clear hi);have hcz42_0 : w41.cell? ⟨gb241,0,none⟩ = some (.int .i64 a0_0) := (blk_cell BK241.out 0).trans rfl;have hcz42_1 : w41.cell? ⟨gb241,1,none⟩ = some (.int .i64 a0_1) := (blk_cell BK241.out 1).trans rfl;have hcz42_2 : w41.cell? ⟨gb241,2,none⟩ = some (.int .i64 a0_2) := (blk_cell BK241.out 2).trans rfl;have hcz42_3 : w41.cell? ⟨gb241,3,none⟩ = some (.int .i64 a0_3) := (blk_cell BK241.out 3).trans rfl;have hcz42_4 : w41.cell? ⟨gb241,4,none⟩ = some (.int .i64 a0_4) := (blk_cell BK241.out 4).trans rfl;have hcz42_5 : w41.cell? ⟨gb241,5,none⟩ = some (.slice A0_5 l0_5.length c0_5) := (blk_cell BK241.out 5).trans rfl;have hfz42_0 := blk_frozen BK241.out 0;have hfz42_1 := blk_frozen BK241.out 1;have hfz42_2 := blk_frozen BK241.out 2;have hfz42_3 := blk_frozen BK241.out 3;have hfz42_4 := blk_frozen BK241.out 4;have hfz42_5 := blk_frozen BK241.out 5))
    have n0_ := Aside0.mk (blk_drew BK241.out)
    have n1_ := Aside0.mk (blk_drew BK242.out)
    have n2_ := Aside0.mk (below_drew1 HB.out)
    clear BK241
    clear BK242
    clear HB
    have BK241 := n0_
    have BK242 := n1_
    have HB := n2_
    clear n0_ n1_ n2_
    refine start_ (n := 18) (S := fun w' => w'.cell? ⟨gb241,0,none⟩ = some (.int .i64 a0_0) ∧ w'.cell? ⟨gb241,1,none⟩ = some (.int .i64 a0_1) ∧ w'.cell? ⟨gb241,2,none⟩ = some (.int .i64 a0_2) ∧ w'.cell? ⟨gb241,3,none⟩ = some (.int .i64 a0_3) ∧ w'.cell? ⟨gb241,4,none⟩ = some (.int .i64 a0_4) ∧ w'.cell? ⟨gb241,5,none⟩ = some (.slice A0_5 l0_5.length c0_5) ∧ w'.cell? ⟨gb242,0,none⟩ = some (.int .u64 a1_0) ∧ w'.cell? ⟨gb242,1,none⟩ = some (.slice A1_1 l1_1.length c1_1) ∧ w'.cell? ⟨gb242,2,none⟩ = some (.slice A1_2 l1_2.length c1_2)) (ds := []) #[false,false,false,false,false,false,false,false,false,false,false,false,false,false,false,false,false,false] (by kernel_rfl) rfl rfl ⟨(blk_cell BK241.out 0).trans rfl,(blk_cell BK241.out 1).trans rfl,(blk_cell BK241.out 2).trans rfl,(blk_cell BK241.out 3).trans rfl,(blk_cell BK241.out 4).trans rfl,(blk_cell BK241.out 5).trans rfl,(blk_cell BK242.out 0).trans rfl,(blk_cell BK242.out 1).trans rfl,(blk_cell BK242.out 2).trans rfl⟩ (fun hHeld => ?_);refine with_tabW value_fit.tab9 value_fit.bits9 (fun HT_ HW_ => ?_)
    generalize w41.drew = w43 at BK241 BK242 HB hHeld ⊢
    refine pure_ (i := 0) (N := some 36) (v := ?_) (a' := ?_) #[true,false,false,false,false,false,false,false,false,false,false,false,false,false,false,false,false,false] rfl rfl (any_of HT_.out (by kernel_rfl)) (fun _ _ _ h => h) (Or.inl ⟨by rfl,?_⟩) ?_ ?_
    rotate_left
    ·intro w'
     go_simp
     with_reducible rfl
    rotate_left
    ·simp only [Act.put,List.setIfInBounds_toArray,List.set_cons_zero,List.set_cons_succ,i64_w,i32_w]
     rfl
    refine pure_ (i := 2) (N := some 38) (v := ?_) (a' := ?_) #[true,false,true,false,false,false,false,false,false,false,false,false,false,false,false,false,false,false] rfl rfl (any_of HT_.out (by kernel_rfl)) (fun _ _ _ h => h) (Or.inl ⟨by rfl,?_⟩) ?_ ?_
    rotate_left
    ·intro w'
     go_simp
     with_reducible rfl
    rotate_left
    ·simp only [Act.put,List.setIfInBounds_toArray,List.set_cons_zero,List.set_cons_succ,i64_w,i32_w]
     rfl
    refine pure_ (i := 6) (N := some 42) (v := ?_) (a' := ?_) #[true,false,true,false,false,false,true,false,false,false,false,false,false,false,false,false,false,false] rfl rfl (any_of HT_.out (by kernel_rfl)) (fun _ _ _ h => h) (Or.inl ⟨by rfl,?_⟩) ?_ ?_
    rotate_left
    ·intro w'
     go_simp
     with_reducible rfl
    rotate_left
    ·simp only [Act.put,List.setIfInBounds_toArray,List.set_cons_zero,List.set_cons_succ,i64_w,i32_w]
     rfl
    refine pure_ (i := 9) (N := some 45) (v := ?_) (a' := ?_) #[true,false,true,false,false,false,true,false,false,true,false,false,false,false,false,false,false,false] rfl rfl (any_of HT_.out (by kernel_rfl)) (fun _ _ _ h => h) (Or.inl ⟨by rfl,?_⟩) ?_ ?_
    rotate_left
    ·intro w'
     go_simp
     with_reducible rfl
    rotate_left
    ·simp only [Act.put,List.setIfInBounds_toArray,List.set_cons_zero,List.set_cons_succ,i64_w,i32_w]
     rfl
    refine pure_ (i := 11) (N := some 47) (v := ?_) (a' := ?_) #[true,false,true,false,false,false,true,false,false,true,false,true,false,false,false,false,false,false] rfl rfl (any_of HT_.out (by kernel_rfl)) (fun _ _ _ h => h) (Or.inl ⟨by rfl,?_⟩) ?_ ?_
    rotate_left
    ·intro w'
     go_simp
     with_reducible rfl
    rotate_left
    ·simp only [Act.put,List.setIfInBounds_toArray,List.set_cons_zero,List.set_cons_succ,i64_w,i32_w]
     rfl
    refine pure_ (i := 13) (N := some 49) (v := ?_) (a' := ?_) #[true,false,true,false,false,false,true,false,false,true,false,true,false,true,false,false,false,false] rfl rfl (any_of HT_.out (by kernel_rfl)) (fun _ _ _ h => h) (Or.inl ⟨by rfl,?_⟩) ?_ ?_
    rotate_left
    ·intro w'
     go_simp
     with_reducible rfl
    rotate_left
    ·simp only [Act.put,List.setIfInBounds_toArray,List.set_cons_zero,List.set_cons_succ,i64_w,i32_w]
     rfl
    refine take_ (i := 1) (N := some 37) (v := ?_) (a' := ?_) #[true,true,true,false,false,false,true,false,false,true,false,true,false,true,false,false,false,false] rfl rfl (take_ofW HT_.out HW_.out (by kernel_rfl)) (fun _ _ _ h => h) (Or.inl ⟨by rfl,?_⟩) hHeld ?_ ?_
    rotate_left
    ·rintro w' ⟨s0,s1,s2,s3,s4,s5,s6,s7,s8⟩
     go_simp
     with_reducible rfl
    rotate_left
    ·simp only [Act.put,List.setIfInBounds_toArray,List.set_cons_zero,List.set_cons_succ,i64_w,i32_w]
     rfl
    refine take_ (i := 3) (N := some 39) (v := ?_) (a' := ?_) #[true,true,true,true,false,false,true,false,false,true,false,true,false,true,false,false,false,false] rfl rfl (take_ofW HT_.out HW_.out (by kernel_rfl)) (fun _ _ _ h => h) (Or.inl ⟨by rfl,?_⟩) hHeld ?_ ?_
    rotate_left
    ·rintro w' ⟨s0,s1,s2,s3,s4,s5,s6,s7,s8⟩
     go_simp
     with_reducible rfl
    rotate_left
    ·simp only [Act.put,List.setIfInBounds_toArray,List.set_cons_zero,List.set_cons_succ,i64_w,i32_w]
     rfl
    refine pure_ (i := 4) (N := some 40) (v := ?_) (a' := ?_) #[true,true,true,true,true,false,true,false,false,true,false,true,false,true,false,false,false,false] rfl rfl (any_of HT_.out (by kernel_rfl)) (fun _ _ _ h => h) (Or.inl ⟨by rfl,?_⟩) ?_ ?_
    rotate_left
    ·intro w'
     go_simp
     with_reducible rfl
    rotate_left
    ·simp only [Act.put,List.setIfInBounds_toArray,List.set_cons_zero,List.set_cons_succ,i64_w,i32_w]
     rfl
    refine pure_ (i := 5) (N := some 41) (v := ?_) (a' := ?_) #[true,true,true,true,true,true,true,false,false,true,false,true,false,true,false,false,false,false] rfl rfl (any_of HT_.out (by kernel_rfl)) (fun _ _ _ h => h) (Or.inl ⟨by rfl,?_⟩) ?_ ?_
    rotate_left
    ·intro w'
     go_simp
     with_reducible rfl
    rotate_left
    ·simp only [Act.put,List.setIfInBounds_toArray,List.set_cons_zero,List.set_cons_succ,i64_w,i32_w]
     rfl
    refine take_ (i := 7) (N := some 43) (v := ?_) (a' := ?_) #[true,true,true,true,true,true,true,true,false,true,false,true,false,true,false,false,false,false] rfl rfl (take_ofW HT_.out HW_.out (by kernel_rfl)) (fun _ _ _ h => h) (Or.inl ⟨by rfl,?_⟩) hHeld ?_ ?_
    rotate_left
    ·rintro w' ⟨s0,s1,s2,s3,s4,s5,s6,s7,s8⟩
     go_simp
     with_reducible rfl
    rotate_left
    ·simp only [Act.put,List.setIfInBounds_toArray,List.set_cons_zero,List.set_cons_succ,i64_w,i32_w]
     rfl
    refine pure_ (i := 8) (N := some 44) (v := ?_) (a' := ?_) #[true,true,true,true,true,true,true,true,true,true,false,true,false,true,false,false,false,false] rfl rfl (any_of HT_.out (by kernel_rfl)) (fun _ _ _ h => h) (Or.inl ⟨by rfl,?_⟩) ?_ ?_
    rotate_left
    ·intro w'
     go_simp
     with_reducible rfl
    rotate_left
    ·simp only [Act.put,List.setIfInBounds_toArray,List.set_cons_zero,List.set_cons_succ,i64_w,i32_w]
     rfl
    refine take_ (i := 10) (N := some 46) (v := ?_) (a' := ?_) #[true,true,true,true,true,true,true,true,true,true,true,true,false,true,false,false,false,false] rfl rfl (take_ofW HT_.out HW_.out (by kernel_rfl)) (fun _ _ _ h => h) (Or.inl ⟨by rfl,?_⟩) hHeld ?_ ?_
    rotate_left
    ·rintro w' ⟨s0,s1,s2,s3,s4,s5,s6,s7,s8⟩
     go_simp
     with_reducible rfl
    rotate_left
    ·simp only [Act.put,List.setIfInBounds_toArray,List.set_cons_zero,List.set_cons_succ,i64_w,i32_w]
     rfl
    refine take_ (i := 12) (N := some 48) (v := ?_) (a' := ?_) #[true,true,true,true,true,true,true,true,true,true,true,true,true,true,false,false,false,false] rfl rfl (take_ofW HT_.out HW_.out (by kernel_rfl)) (fun _ _ _ h => h) (Or.inl ⟨by rfl,?_⟩) hHeld ?_ ?_
    rotate_left
    ·rintro w' ⟨s0,s1,s2,s3,s4,s5,s6,s7,s8⟩
     go_simp
     with_reducible rfl
    rotate_left
    ·simp only [Act.put,List.setIfInBounds_toArray,List.set_cons_zero,List.set_cons_succ,i64_w,i32_w]
     rfl
    refine take_ (i := 14) (N := some 50) (v := ?_) (a' := ?_) #[true,true,true,true,true,true,true,true,true,true,true,true,true,true,true,false,false,false] rfl rfl (take_ofW HT_.out HW_.out (by kernel_rfl)) (fun _ _ _ h => h) (Or.inl ⟨by rfl,?_⟩) hHeld ?_ ?_
    rotate_left
    ·rintro w' ⟨s0,s1,s2,s3,s4,s5,s6,s7,s8⟩
     go_simp
     with_reducible rfl
    rotate_left
    ·simp only [Act.put,List.setIfInBounds_toArray,List.set_cons_zero,List.set_cons_succ,i64_w,i32_w]
     rfl
    refine one_ (i := 15) (N := some 51) #[true,true,true,true,true,true,true,true,true,true,true,true,true,true,true,true,false,false] rfl rfl (one_of HT_.out (by kernel_rfl)) (by decide) (fun K hK => ?_)
    refine goes_ Try.func71 (by kernel_rfl) rfl #[.int .i64 (l1_1.length : Int),.int .i64 a0_2,.int .i64 a0_3,.int .i64 a0_4] (by rfl) rfl rfl (by (try simp only [List.map_toArray,List.map_cons,List.map_nil]);first | done | rfl | (simp only [List.length_drop,List.length_take];rfl)) ?_
    with_reducible refine (value_may.calls (l1_1.length : Int) a0_2 a0_3 a0_4 t244 _ A35.out).mono ?_
    rintro e w' ⟨rfl,⟨nd,rfl⟩⟩
    refine ⟨_,rfl,?_⟩
    refine hK.out _ _ ⟨(blk_cell BK241.out 0).trans rfl,(blk_cell BK241.out 1).trans rfl,(blk_cell BK241.out 2).trans rfl,(blk_cell BK241.out 3).trans rfl,(blk_cell BK241.out 4).trans rfl,(blk_cell BK241.out 5).trans rfl,(blk_cell BK242.out 0).trans rfl,(blk_cell BK242.out 1).trans rfl,(blk_cell BK242.out 2).trans rfl⟩ (fun hHeld => ?_)
    clear hK K
    refine norm_ (a' := ?_) ?_ ?_
    rotate_left
    ·show Act.put _ (some 51) _ = _
     simp only [Act.put,List.setIfInBounds_toArray,List.set_cons_zero,List.set_cons_succ,i64_w,i32_w]
     rfl
    refine pure_ (i := 16) (N := some 4) (v := ?_) (a' := ?_) #[true,true,true,true,true,true,true,true,true,true,true,true,true,true,true,true,true,false] rfl rfl (any_of HT_.out (by kernel_rfl)) (fun _ _ _ h => h) (Or.inl ⟨by rfl,?_⟩) ?_ ?_
    rotate_left
    ·intro w'
     go_simp
     with_reducible rfl
    rotate_left
    ·simp only [Act.put,List.setIfInBounds_toArray,List.set_cons_zero,List.set_cons_succ,i64_w,i32_w]
     rfl
    refine pure_ (i := 17) (N := some 5) (v := ?_) (a' := ?_) #[true,true,true,true,true,true,true,true,true,true,true,true,true,true,true,true,true,true] rfl rfl (any_of HT_.out (by kernel_rfl)) (fun _ _ _ h => h) (Or.inl ⟨by rfl,?_⟩) ?_ ?_
    rotate_left
    ·intro w'
     go_simp
     with_reducible rfl
    rotate_left
    ·simp only [Act.put,List.setIfInBounds_toArray,List.set_cons_zero,List.set_cons_succ,i64_w,i32_w]
     rfl
    refine done_ (done_of HT_.out (by kernel_rfl)) ?_
    try go_wp2
    go_ret2
    exact ⟨by first | rfl | (simp [errW_none,errW_some] <;> rfl) | (simp [*,errW_none,errW_some] <;> rfl),by repeat (first | (with_reducible first | exact HB.out | apply below_alloc | apply pw_below_drewN | apply below_drew1 | refine below_set ?_ GE241.out | refine below_set ?_ GE242.out) | exact HB.out)⟩
   ·rw [if_neg c34] at H
    have c34b0 : (a0_0 == 1) = false := beq_eq_false_iff_ne.mpr c34
    have c34b1 : (a0_0 != 1) = true := bne_iff_ne.mpr c34
    by_cases c44 : a0_0 = 4
    ·rw [if_pos c44] at H
     have c44b0 : (a0_0 == 4) = true := beq_iff_eq.mpr c44
     have c44b1 : (a0_0 != 4) = false := bne_eq_false_iff_eq.mpr c44
     clear c44
     replace H := Option.bind_eq_some_iff.mp H
     obtain ⟨t245,A450,H⟩ := H
     replace H : (some ((l1_1.length : Int),t245)) = some (r1,r2) := H
     have A45 := Aside0.mk A450
     clear A450
     simp only [Option.some.injEq,Prod.mk.injEq] at H
     obtain ⟨rfl,rfl⟩ := H
     go_enter Try.func66,Try.ntmps66
     try go_wp2_with (first | ((with_reducible refine gate_dst (N := 2) rfl ?_);(try (refine gate_guard (by rfl) ?_;dsimp only));refine box_event ?hg (N := 2) ?hd (cs := #[.int .i64 a0_0,.int .i64 a0_1,.int .i64 a0_2,.int .i64 a0_3,.int .i64 a0_4,.slice A0_5 l0_5.length c0_5]) (t := 27) ?hr ?_;(case hd => rfl);(case hg => rfl);(case hr => first | (go_simp;done) | (go_simp;rfl));intro gb241 hg w46 hbox hb;have n0_ := Aside0.mk (below_step (by repeat (first | (with_reducible first | exact HB.out | apply below_alloc | apply pw_below_drewN | apply below_drew1) | exact HB.out)) hb);have n1_ := Aside0.mk (hbox);have n2_ := Aside0.mk ((by rw [hg];exact (below_size (by repeat (first | (with_reducible first | exact HB.out | apply below_alloc | apply pw_below_drewN | apply below_drew1) | exact HB.out))) : w.heap.size ≤ gb241));have n3_ := Aside0.mk ((by rw [hg];exact (below_size (by repeat (first | (with_reducible first | exact HB.out | apply below_alloc | apply pw_below_drewN | apply below_drew1) | exact HB.out))) : w.heap.size ≤ gb241));clear HB;have HB := n0_;have BK241 := n1_;have GW241 := n2_;have GE241 := n3_;clear n0_ n1_ n2_ n3_;clear hb hbox hg) | ((with_reducible refine gate_dst (N := 3) rfl ?_);(try (refine gate_guard (by rfl) ?_;dsimp only));refine box_event ?hg (N := 3) ?hd (cs := #[.int .u64 a1_0,.slice A1_1 l1_1.length c1_1,.slice A1_2 l1_2.length c1_2]) (t := 46) ?hr ?_;(case hd => rfl);(case hg => rfl);(case hr => first | (go_simp;done) | (go_simp;rfl));intro gb242 hg w47 hbox hb;have n0_ := Aside0.mk (blk_below (g := gb241) (o := .cells #[.int .i64 a0_0,.int .i64 a0_1,.int .i64 a0_2,.int .i64 a0_3,.int .i64 a0_4,.slice A0_5 l0_5.length c0_5] 27 (0,0)) (by (with_reducible repeat (first | refine blk_drewN ?_ _ | refine blk_drew ?_ | refine blk_alloc ?_ _));exact BK241.out) hb);have n1_ := Aside0.mk (below_step (by repeat (first | (with_reducible first | exact HB.out | apply below_alloc | apply pw_below_drewN | apply below_drew1 | refine below_set ?_ GE241.out) | exact HB.out)) hb);have n2_ := Aside0.mk (hbox);have n3_ := Aside0.mk ((by rw [hg];exact (below_size (by repeat (first | (with_reducible first | exact HB.out | apply below_alloc | apply pw_below_drewN | apply below_drew1 | refine below_set ?_ GE241.out) | exact HB.out))) : w.heap.size ≤ gb242));have n4_ := Aside0.mk ((by rw [hg];exact (below_size (by repeat (first | (with_reducible first | exact HB.out | apply below_alloc | apply pw_below_drewN | apply below_drew1 | refine below_set ?_ GE241.out) | exact HB.out))) : w.heap.size ≤ gb242));have n5_ := Aside0.mk ((by rw [hg];exact Nat.ne_of_lt (blk_lt (g := gb241) (o := .cells #[.int .i64 a0_0,.int .i64 a0_1,.int .i64 a0_2,.int .i64 a0_3,.int .i64 a0_4,.slice A0_5 l0_5.length c0_5] 27 (0,0)) (by (with_reducible repeat (first | refine blk_drewN ?_ _ | refine blk_drew ?_ | refine blk_alloc ?_ _));exact BK241.out)) : gb241 ≠ gb242));have n6_ := Aside0.mk ((by rw [hg];exact Nat.ne_of_gt (blk_lt (g := gb241) (o := .cells #[.int .i64 a0_0,.int .i64 a0_1,.int .i64 a0_2,.int .i64 a0_3,.int .i64 a0_4,.slice A0_5 l0_5.length c0_5] 27 (0,0)) (by (with_reducible repeat (first | refine blk_drewN ?_ _ | refine blk_drew ?_ | refine blk_alloc ?_ _));exact BK241.out)) : gb242 ≠ gb241));clear BK241;clear HB;have BK241 := n0_;have HB := n1_;have BK242 := n2_;have GW242 := n3_;have GE242 := n4_;have NB241_242 := n5_;have NB242_241 := n6_;clear n0_ n1_ n2_ n3_ n4_ n5_ n6_;clear hb hbox hg;have hnb48 := NB241_242.out;have hnc48 := NB242_241.out;have hcz49_0 : w47.cell? ⟨gb241,0,none⟩ = some (.int .i64 a0_0) := (blk_cell BK241.out 0).trans rfl;have hcz49_1 : w47.cell? ⟨gb241,1,none⟩ = some (.int .i64 a0_1) := (blk_cell BK241.out 1).trans rfl;have hcz49_2 : w47.cell? ⟨gb241,2,none⟩ = some (.int .i64 a0_2) := (blk_cell BK241.out 2).trans rfl;have hcz49_3 : w47.cell? ⟨gb241,3,none⟩ = some (.int .i64 a0_3) := (blk_cell BK241.out 3).trans rfl;have hcz49_4 : w47.cell? ⟨gb241,4,none⟩ = some (.int .i64 a0_4) := (blk_cell BK241.out 4).trans rfl;have hcz49_5 : w47.cell? ⟨gb241,5,none⟩ = some (.slice A0_5 l0_5.length c0_5) := (blk_cell BK241.out 5).trans rfl;have hfz49_0 := blk_frozen BK241.out 0;have hfz49_1 := blk_frozen BK241.out 1;have hfz49_2 := blk_frozen BK241.out 2;have hfz49_3 := blk_frozen BK241.out 3;have hfz49_4 := blk_frozen BK241.out 4;have hfz49_5 := blk_frozen BK241.out 5;have hcz50_0 : w47.cell? ⟨gb242,0,none⟩ = some (.int .u64 a1_0) := (blk_cell BK242.out 0).trans rfl;have hcz50_1 : w47.cell? ⟨gb242,1,none⟩ = some (.slice A1_1 l1_1.length c1_1) := (blk_cell BK242.out 1).trans rfl;have hcz50_2 : w47.cell? ⟨gb242,2,none⟩ = some (.slice A1_2 l1_2.length c1_2) := (blk_cell BK242.out 2).trans rfl;have hfz50_0 := blk_frozen BK242.out 0;have hfz50_1 := blk_frozen BK242.out 1;have hfz50_2 := blk_frozen BK242.out 2) | ((with_reducible refine gate_callee (f := 70) rfl ?_);refine goesL_ (some 14) rfl rfl Try.func70 (by kernel_rfl) rfl #[.int .i64 a0_0,.agg #[.int .u64 a1_0,.slice A1_1 l1_1.length c1_1,.slice A1_2 l1_2.length c1_2]] rfl (by (try simp only [List.map_toArray,List.map_cons,List.map_nil]);first | done | rfl | (simp only [List.length_drop,List.length_take];rfl)) ?_;(with_reducible refine (value_alone.calls a0_0 a1_0 _ _ l1_1 _ _ l1_2 true _ ?side1 ?side2 ?side3 ?side4 A3.out).mono ?_);(case side1 => repeat (first | exact (Kd.C_below HR1_1.out HB.out) | (with_reducible refine Kd.C_alloc ?_ _) | (with_reducible refine Kd.C_drewN ?_ _) | (with_reducible refine Kd.C_drew ?_)));(case side2 => exact HC1_1.out);(case side3 => repeat (first | exact (Kd.C_below HR1_2.out HB.out) | (with_reducible refine Kd.C_alloc ?_ _) | (with_reducible refine Kd.C_drewN ?_ _) | (with_reducible refine Kd.C_drew ?_)));(case side4 => exact HC1_2.out);rintro e w51 ⟨rfl,hb⟩;refine ⟨_,rfl,?_⟩;have n0_ := Aside0.mk (blk_below (g := gb241) (o := .cells #[.int .i64 a0_0,.int .i64 a0_1,.int .i64 a0_2,.int .i64 a0_3,.int .i64 a0_4,.slice A0_5 l0_5.length c0_5] 27 (0,0)) (by (with_reducible repeat (first | refine blk_drewN ?_ _ | refine blk_drew ?_ | refine blk_alloc ?_ _));exact BK241.out) hb);have n1_ := Aside0.mk (blk_below (g := gb242) (o := .cells #[.int .u64 a1_0,.slice A1_1 l1_1.length c1_1,.slice A1_2 l1_2.length c1_2] 46 (0,0)) (by (with_reducible repeat (first | refine blk_drewN ?_ _ | refine blk_drew ?_ | refine blk_alloc ?_ _));exact BK242.out) hb);have n2_ := Aside0.mk (below_step (by repeat (first | (with_reducible first | exact HB.out | apply below_alloc | apply pw_below_drewN | apply below_drew1 | refine below_set ?_ GE241.out | refine below_set ?_ GE242.out) | exact HB.out)) hb);clear BK241;clear BK242;clear HB;have BK241 := n0_;have BK242 := n1_;have HB := n2_;clear n0_ n1_ n2_;(try clear hb);(try clear hb2);(try clear hk);(try clear hi);have hcz52_0 : w51.cell? ⟨gb241,0,none⟩ = some (.int .i64 a0_0) := (blk_cell BK241.out 0).trans rfl;have hcz52_1 : w51.cell? ⟨gb241,1,none⟩ = some (.int .i64 a0_1) := (blk_cell BK241.out 1).trans rfl;have hcz52_2 : w51.cell? ⟨gb241,2,none⟩ = some (.int .i64 a0_2) := (blk_cell BK241.out 2).trans rfl;have hcz52_3 : w51.cell? ⟨gb241,3,none⟩ = some (.int .i64 a0_3) := (blk_cell BK241.out 3).trans rfl;have hcz52_4 : w51.cell? ⟨gb241,4,none⟩ = some (.int .i64 a0_4) := (blk_cell BK241.out 4).trans rfl;have hcz52_5 : w51.cell? ⟨gb241,5,none⟩ = some (.slice A0_5 l0_5.length c0_5) := (blk_cell BK241.out 5).trans rfl;have hfz52_0 := blk_frozen BK241.out 0;have hfz52_1 := blk_frozen BK241.out 1;have hfz52_2 := blk_frozen BK241.out 2;have hfz52_3 := blk_frozen BK241.out 3;have hfz52_4 := blk_frozen BK241.out 4;have hfz52_5 := blk_frozen BK241.out 5))
     have n0_ := Aside0.mk (blk_drew BK241.out)
     have n1_ := Aside0.mk (blk_drew BK242.out)
     have n2_ := Aside0.mk (below_drew1 HB.out)
     clear BK241
     clear BK242
     clear HB
     have BK241 := n0_
     have BK242 := n1_
     have HB := n2_
     clear n0_ n1_ n2_
     refine start_ (n := 13) (S := fun w' => w'.cell? ⟨gb242,0,none⟩ = some (.int .u64 a1_0) ∧ w'.cell? ⟨gb242,1,none⟩ = some (.slice A1_1 l1_1.length c1_1) ∧ w'.cell? ⟨gb242,2,none⟩ = some (.slice A1_2 l1_2.length c1_2) ∧ w'.cell? ⟨gb241,0,none⟩ = some (.int .i64 a0_0) ∧ w'.cell? ⟨gb241,1,none⟩ = some (.int .i64 a0_1) ∧ w'.cell? ⟨gb241,2,none⟩ = some (.int .i64 a0_2) ∧ w'.cell? ⟨gb241,3,none⟩ = some (.int .i64 a0_3) ∧ w'.cell? ⟨gb241,4,none⟩ = some (.int .i64 a0_4) ∧ w'.cell? ⟨gb241,5,none⟩ = some (.slice A0_5 l0_5.length c0_5)) (ds := []) #[false,false,false,false,false,false,false,false,false,false,false,false,false] (by kernel_rfl) rfl rfl ⟨(blk_cell BK242.out 0).trans rfl,(blk_cell BK242.out 1).trans rfl,(blk_cell BK242.out 2).trans rfl,(blk_cell BK241.out 0).trans rfl,(blk_cell BK241.out 1).trans rfl,(blk_cell BK241.out 2).trans rfl,(blk_cell BK241.out 3).trans rfl,(blk_cell BK241.out 4).trans rfl,(blk_cell BK241.out 5).trans rfl⟩ (fun hHeld => ?_);refine with_tabW value_fit.tab11 value_fit.bits11 (fun HT_ HW_ => ?_)
     generalize w51.drew = w53 at BK241 BK242 HB hHeld ⊢
     refine pure_ (i := 0) (N := some 54) (v := ?_) (a' := ?_) #[true,false,false,false,false,false,false,false,false,false,false,false,false] rfl rfl (any_of HT_.out (by kernel_rfl)) (fun _ _ _ h => h) (Or.inl ⟨by rfl,?_⟩) ?_ ?_
     rotate_left
     ·intro w'
      go_simp
      with_reducible rfl
     rotate_left
     ·simp only [Act.put,List.setIfInBounds_toArray,List.set_cons_zero,List.set_cons_succ,i64_w,i32_w]
      rfl
     refine pure_ (i := 3) (N := some 57) (v := ?_) (a' := ?_) #[true,false,false,true,false,false,false,false,false,false,false,false,false] rfl rfl (any_of HT_.out (by kernel_rfl)) (fun _ _ _ h => h) (Or.inl ⟨by rfl,?_⟩) ?_ ?_
     rotate_left
     ·intro w'
      go_simp
      with_reducible rfl
     rotate_left
     ·simp only [Act.put,List.setIfInBounds_toArray,List.set_cons_zero,List.set_cons_succ,i64_w,i32_w]
      rfl
     refine pure_ (i := 6) (N := some 60) (v := ?_) (a' := ?_) #[true,false,false,true,false,false,true,false,false,false,false,false,false] rfl rfl (any_of HT_.out (by kernel_rfl)) (fun _ _ _ h => h) (Or.inl ⟨by rfl,?_⟩) ?_ ?_
     rotate_left
     ·intro w'
      go_simp
      with_reducible rfl
     rotate_left
     ·simp only [Act.put,List.setIfInBounds_toArray,List.set_cons_zero,List.set_cons_succ,i64_w,i32_w]
      rfl
     refine pure_ (i := 8) (N := some 62) (v := ?_) (a' := ?_) #[true,false,false,true,false,false,true,false,true,false,false,false,false] rfl rfl (any_of HT_.out (by kernel_rfl)) (fun _ _ _ h => h) (Or.inl ⟨by rfl,?_⟩) ?_ ?_
     rotate_left
     ·intro w'
      go_simp
      with_reducible rfl
     rotate_left
     ·simp only [Act.put,List.setIfInBounds_toArray,List.set_cons_zero,List.set_cons_succ,i64_w,i32_w]
      rfl
     refine take_ (i := 1) (N := some 55) (v := ?_) (a' := ?_) #[true,true,false,true,false,false,true,false,true,false,false,false,false] rfl rfl (take_ofW HT_.out HW_.out (by kernel_rfl)) (fun _ _ _ h => h) (Or.inl ⟨by rfl,?_⟩) hHeld ?_ ?_
     rotate_left
     ·rintro w' ⟨s0,s1,s2,s3,s4,s5,s6,s7,s8⟩
      go_simp
      with_reducible rfl
     rotate_left
     ·simp only [Act.put,List.setIfInBounds_toArray,List.set_cons_zero,List.set_cons_succ,i64_w,i32_w]
      rfl
     refine pure_ (i := 2) (N := some 56) (v := ?_) (a' := ?_) #[true,true,true,true,false,false,true,false,true,false,false,false,false] rfl rfl (any_of HT_.out (by kernel_rfl)) (fun _ _ _ h => h) (Or.inl ⟨by rfl,?_⟩) ?_ ?_
     rotate_left
     ·intro w'
      go_simp
      with_reducible rfl
     rotate_left
     ·simp only [Act.put,List.setIfInBounds_toArray,List.set_cons_zero,List.set_cons_succ,i64_w,i32_w]
      rfl
     refine take_ (i := 4) (N := some 58) (v := ?_) (a' := ?_) #[true,true,true,true,true,false,true,false,true,false,false,false,false] rfl rfl (take_ofW HT_.out HW_.out (by kernel_rfl)) (fun _ _ _ h => h) (Or.inl ⟨by rfl,?_⟩) hHeld ?_ ?_
     rotate_left
     ·rintro w' ⟨s0,s1,s2,s3,s4,s5,s6,s7,s8⟩
      go_simp
      with_reducible rfl
     rotate_left
     ·simp only [Act.put,List.setIfInBounds_toArray,List.set_cons_zero,List.set_cons_succ,i64_w,i32_w]
      rfl
     refine pure_ (i := 5) (N := some 59) (v := ?_) (a' := ?_) #[true,true,true,true,true,true,true,false,true,false,false,false,false] rfl rfl (any_of HT_.out (by kernel_rfl)) (fun _ _ _ h => h) (Or.inl ⟨by rfl,?_⟩) ?_ ?_
     rotate_left
     ·intro w'
      go_simp
      with_reducible rfl
     rotate_left
     ·simp only [Act.put,List.setIfInBounds_toArray,List.set_cons_zero,List.set_cons_succ,i64_w,i32_w]
      rfl
     refine take_ (i := 7) (N := some 61) (v := ?_) (a' := ?_) #[true,true,true,true,true,true,true,true,true,false,false,false,false] rfl rfl (take_ofW HT_.out HW_.out (by kernel_rfl)) (fun _ _ _ h => h) (Or.inl ⟨by rfl,?_⟩) hHeld ?_ ?_
     rotate_left
     ·rintro w' ⟨s0,s1,s2,s3,s4,s5,s6,s7,s8⟩
      go_simp
      with_reducible rfl
     rotate_left
     ·simp only [Act.put,List.setIfInBounds_toArray,List.set_cons_zero,List.set_cons_succ,i64_w,i32_w]
      rfl
     refine take_ (i := 9) (N := some 63) (v := ?_) (a' := ?_) #[true,true,true,true,true,true,true,true,true,true,false,false,false] rfl rfl (take_ofW HT_.out HW_.out (by kernel_rfl)) (fun _ _ _ h => h) (Or.inl ⟨by rfl,?_⟩) hHeld ?_ ?_
     rotate_left
     ·rintro w' ⟨s0,s1,s2,s3,s4,s5,s6,s7,s8⟩
      go_simp
      with_reducible rfl
     rotate_left
     ·simp only [Act.put,List.setIfInBounds_toArray,List.set_cons_zero,List.set_cons_succ,i64_w,i32_w]
      rfl
     refine one_ (i := 10) (N := some 64) #[true,true,true,true,true,true,true,true,true,true,true,false,false] rfl rfl (one_of HT_.out (by kernel_rfl)) (by decide) (fun K hK => ?_)
     refine goes_ Try.func71 (by kernel_rfl) rfl #[.int .i64 (l1_1.length : Int),.int .i64 a0_2,.int .i64 a0_3,.int .i64 1] (by rfl) rfl rfl (by (try simp only [List.map_toArray,List.map_cons,List.map_nil]);first | done | rfl | (simp only [List.length_drop,List.length_take];rfl)) ?_
     with_reducible refine (value_may.calls (l1_1.length : Int) a0_2 a0_3 1 t245 _ A45.out).mono ?_
     rintro e w' ⟨rfl,⟨nd,rfl⟩⟩
     refine ⟨_,rfl,?_⟩
     refine hK.out _ _ ⟨(blk_cell BK242.out 0).trans rfl,(blk_cell BK242.out 1).trans rfl,(blk_cell BK242.out 2).trans rfl,(blk_cell BK241.out 0).trans rfl,(blk_cell BK241.out 1).trans rfl,(blk_cell BK241.out 2).trans rfl,(blk_cell BK241.out 3).trans rfl,(blk_cell BK241.out 4).trans rfl,(blk_cell BK241.out 5).trans rfl⟩ (fun hHeld => ?_)
     clear hK K
     refine norm_ (a' := ?_) ?_ ?_
     rotate_left
     ·show Act.put _ (some 64) _ = _
      simp only [Act.put,List.setIfInBounds_toArray,List.set_cons_zero,List.set_cons_succ,i64_w,i32_w]
      rfl
     refine pure_ (i := 11) (N := some 4) (v := ?_) (a' := ?_) #[true,true,true,true,true,true,true,true,true,true,true,true,false] rfl rfl (any_of HT_.out (by kernel_rfl)) (fun _ _ _ h => h) (Or.inl ⟨by rfl,?_⟩) ?_ ?_
     rotate_left
     ·intro w'
      go_simp
      with_reducible rfl
     rotate_left
     ·simp only [Act.put,List.setIfInBounds_toArray,List.set_cons_zero,List.set_cons_succ,i64_w,i32_w]
      rfl
     refine pure_ (i := 12) (N := some 5) (v := ?_) (a' := ?_) #[true,true,true,true,true,true,true,true,true,true,true,true,true] rfl rfl (any_of HT_.out (by kernel_rfl)) (fun _ _ _ h => h) (Or.inl ⟨by rfl,?_⟩) ?_ ?_
     rotate_left
     ·intro w'
      go_simp
      with_reducible rfl
     rotate_left
     ·simp only [Act.put,List.setIfInBounds_toArray,List.set_cons_zero,List.set_cons_succ,i64_w,i32_w]
      rfl
     refine done_ (done_of HT_.out (by kernel_rfl)) ?_
     try go_wp2
     go_ret2
     exact ⟨by first | rfl | (simp [errW_none,errW_some] <;> rfl) | (simp [*,errW_none,errW_some] <;> rfl),by repeat (first | (with_reducible first | exact HB.out | apply below_alloc | apply pw_below_drewN | apply below_drew1 | refine below_set ?_ GE241.out | refine below_set ?_ GE242.out) | exact HB.out)⟩
    ·rw [if_neg c44] at H
     have c44b0 : (a0_0 == 4) = false := beq_eq_false_iff_ne.mpr c44
     have c44b1 : (a0_0 != 4) = true := bne_iff_ne.mpr c44
     by_cases c54 : a0_0 = 5
     ·rw [if_pos c54] at H
      have c54b0 : (a0_0 == 5) = true := beq_iff_eq.mpr c54
      have c54b1 : (a0_0 != 5) = false := bne_eq_false_iff_eq.mpr c54
      clear c54
      replace H := Option.bind_eq_some_iff.mp H
      obtain ⟨t246,A550,H⟩ := H
      replace H : (some (a0_2,t246)) = some (r1,r2) := H
      have A55 := Aside0.mk A550
      clear A550
      simp only [Option.some.injEq,Prod.mk.injEq] at H
      obtain ⟨rfl,rfl⟩ := H
      go_enter Try.func66,Try.ntmps66
      try go_wp2_with (first | ((with_reducible refine gate_dst (N := 2) rfl ?_);(try (refine gate_guard (by rfl) ?_;dsimp only));refine box_event ?hg (N := 2) ?hd (cs := #[.int .i64 a0_0,.int .i64 a0_1,.int .i64 a0_2,.int .i64 a0_3,.int .i64 a0_4,.slice A0_5 l0_5.length c0_5]) (t := 27) ?hr ?_;(case hd => rfl);(case hg => rfl);(case hr => first | (go_simp;done) | (go_simp;rfl));intro gb241 hg w56 hbox hb;have n0_ := Aside0.mk (below_step (by repeat (first | (with_reducible first | exact HB.out | apply below_alloc | apply pw_below_drewN | apply below_drew1) | exact HB.out)) hb);have n1_ := Aside0.mk (hbox);have n2_ := Aside0.mk ((by rw [hg];exact (below_size (by repeat (first | (with_reducible first | exact HB.out | apply below_alloc | apply pw_below_drewN | apply below_drew1) | exact HB.out))) : w.heap.size ≤ gb241));have n3_ := Aside0.mk ((by rw [hg];exact (below_size (by repeat (first | (with_reducible first | exact HB.out | apply below_alloc | apply pw_below_drewN | apply below_drew1) | exact HB.out))) : w.heap.size ≤ gb241));clear HB;have HB := n0_;have BK241 := n1_;have GW241 := n2_;have GE241 := n3_;clear n0_ n1_ n2_ n3_;clear hb hbox hg) | ((with_reducible refine gate_dst (N := 3) rfl ?_);(try (refine gate_guard (by rfl) ?_;dsimp only));refine box_event ?hg (N := 3) ?hd (cs := #[.int .u64 a1_0,.slice A1_1 l1_1.length c1_1,.slice A1_2 l1_2.length c1_2]) (t := 46) ?hr ?_;(case hd => rfl);(case hg => rfl);(case hr => first | (go_simp;done) | (go_simp;rfl));intro gb242 hg w57 hbox hb;have n0_ := Aside0.mk (blk_below (g := gb241) (o := .cells #[.int .i64 a0_0,.int .i64 a0_1,.int .i64 a0_2,.int .i64 a0_3,.int .i64 a0_4,.slice A0_5 l0_5.length c0_5] 27 (0,0)) (by (with_reducible repeat (first | refine blk_drewN ?_ _ | refine blk_drew ?_ | refine blk_alloc ?_ _));exact BK241.out) hb);have n1_ := Aside0.mk (below_step (by repeat (first | (with_reducible first | exact HB.out | apply below_alloc | apply pw_below_drewN | apply below_drew1 | refine below_set ?_ GE241.out) | exact HB.out)) hb);have n2_ := Aside0.mk (hbox);have n3_ := Aside0.mk ((by rw [hg];exact (below_size (by repeat (first | (with_reducible first | exact HB.out | apply below_alloc | apply pw_below_drewN | apply below_drew1 | refine below_set ?_ GE241.out) | exact HB.out))) : w.heap.size ≤ gb242));have n4_ := Aside0.mk ((by rw [hg];exact (below_size (by repeat (first | (with_reducible first | exact HB.out | apply below_alloc | apply pw_below_drewN | apply below_drew1 | refine below_set ?_ GE241.out) | exact HB.out))) : w.heap.size ≤ gb242));have n5_ := Aside0.mk ((by rw [hg];exact Nat.ne_of_lt (blk_lt (g := gb241) (o := .cells #[.int .i64 a0_0,.int .i64 a0_1,.int .i64 a0_2,.int .i64 a0_3,.int .i64 a0_4,.slice A0_5 l0_5.length c0_5] 27 (0,0)) (by (with_reducible repeat (first | refine blk_drewN ?_ _ | refine blk_drew ?_ | refine blk_alloc ?_ _));exact BK241.out)) : gb241 ≠ gb242));have n6_ := Aside0.mk ((by rw [hg];exact Nat.ne_of_gt (blk_lt (g := gb241) (o := .cells #[.int .i64 a0_0,.int .i64 a0_1,.int .i64 a0_2,.int .i64 a0_3,.int .i64 a0_4,.slice A0_5 l0_5.length c0_5] 27 (0,0)) (by (with_reducible repeat (first | refine blk_drewN ?_ _ | refine blk_drew ?_ | refine blk_alloc ?_ _));exact BK241.out)) : gb242 ≠ gb241));clear BK241;clear HB;have BK241 := n0_;have HB := n1_;have BK242 := n2_;have GW242 := n3_;have GE242 := n4_;have NB241_242 := n5_;have NB242_241 := n6_;clear n0_ n1_ n2_ n3_ n4_ n5_ n6_;clear hb hbox hg;have hnb58 := NB241_242.out;have hnc58 := NB242_241.out;have hcz59_0 : w57.cell? ⟨gb241,0,none⟩ = some (.int .i64 a0_0) := (blk_cell BK241.out 0).trans rfl;have hcz59_1 : w57.cell? ⟨gb241,1,none⟩ = some (.int .i64 a0_1) := (blk_cell BK241.out 1).trans rfl;have hcz59_2 : w57.cell? ⟨gb241,2,none⟩ = some (.int .i64 a0_2) := (blk_cell BK241.out 2).trans rfl;have hcz59_3 : w57.cell? ⟨gb241,3,none⟩ = some (.int .i64 a0_3) := (blk_cell BK241.out 3).trans rfl;have hcz59_4 : w57.cell? ⟨gb241,4,none⟩ = some (.int .i64 a0_4) := (blk_cell BK241.out 4).trans rfl;have hcz59_5 : w57.cell? ⟨gb241,5,none⟩ = some (.slice A0_5 l0_5.length c0_5) := (blk_cell BK241.out 5).trans rfl;have hfz59_0 := blk_frozen BK241.out 0;have hfz59_1 := blk_frozen BK241.out 1;have hfz59_2 := blk_frozen BK241.out 2;have hfz59_3 := blk_frozen BK241.out 3;have hfz59_4 := blk_frozen BK241.out 4;have hfz59_5 := blk_frozen BK241.out 5;have hcz60_0 : w57.cell? ⟨gb242,0,none⟩ = some (.int .u64 a1_0) := (blk_cell BK242.out 0).trans rfl;have hcz60_1 : w57.cell? ⟨gb242,1,none⟩ = some (.slice A1_1 l1_1.length c1_1) := (blk_cell BK242.out 1).trans rfl;have hcz60_2 : w57.cell? ⟨gb242,2,none⟩ = some (.slice A1_2 l1_2.length c1_2) := (blk_cell BK242.out 2).trans rfl;have hfz60_0 := blk_frozen BK242.out 0;have hfz60_1 := blk_frozen BK242.out 1;have hfz60_2 := blk_frozen BK242.out 2) | ((with_reducible refine gate_callee (f := 70) rfl ?_);refine goesL_ (some 14) rfl rfl Try.func70 (by kernel_rfl) rfl #[.int .i64 a0_0,.agg #[.int .u64 a1_0,.slice A1_1 l1_1.length c1_1,.slice A1_2 l1_2.length c1_2]] rfl (by (try simp only [List.map_toArray,List.map_cons,List.map_nil]);first | done | rfl | (simp only [List.length_drop,List.length_take];rfl)) ?_;(with_reducible refine (value_alone.calls a0_0 a1_0 _ _ l1_1 _ _ l1_2 true _ ?side1 ?side2 ?side3 ?side4 A3.out).mono ?_);(case side1 => repeat (first | exact (Kd.C_below HR1_1.out HB.out) | (with_reducible refine Kd.C_alloc ?_ _) | (with_reducible refine Kd.C_drewN ?_ _) | (with_reducible refine Kd.C_drew ?_)));(case side2 => exact HC1_1.out);(case side3 => repeat (first | exact (Kd.C_below HR1_2.out HB.out) | (with_reducible refine Kd.C_alloc ?_ _) | (with_reducible refine Kd.C_drewN ?_ _) | (with_reducible refine Kd.C_drew ?_)));(case side4 => exact HC1_2.out);rintro e w61 ⟨rfl,hb⟩;refine ⟨_,rfl,?_⟩;have n0_ := Aside0.mk (blk_below (g := gb241) (o := .cells #[.int .i64 a0_0,.int .i64 a0_1,.int .i64 a0_2,.int .i64 a0_3,.int .i64 a0_4,.slice A0_5 l0_5.length c0_5] 27 (0,0)) (by (with_reducible repeat (first | refine blk_drewN ?_ _ | refine blk_drew ?_ | refine blk_alloc ?_ _));exact BK241.out) hb);have n1_ := Aside0.mk (blk_below (g := gb242) (o := .cells #[.int .u64 a1_0,.slice A1_1 l1_1.length c1_1,.slice A1_2 l1_2.length c1_2] 46 (0,0)) (by (with_reducible repeat (first | refine blk_drewN ?_ _ | refine blk_drew ?_ | refine blk_alloc ?_ _));exact BK242.out) hb);have n2_ := Aside0.mk (below_step (by repeat (first | (with_reducible first | exact HB.out | apply below_alloc | apply pw_below_drewN | apply below_drew1 | refine below_set ?_ GE241.out | refine below_set ?_ GE242.out) | exact HB.out)) hb);clear BK241;clear BK242;clear HB;have BK241 := n0_;have BK242 := n1_;have HB := n2_;clear n0_ n1_ n2_;(try clear hb);(try clear hb2);(try clear hk);(try clear hi);have hcz62_0 : w61.cell? ⟨gb241,0,none⟩ = some (.int .i64 a0_0) := (blk_cell BK241.out 0).trans rfl;have hcz62_1 : w61.cell? ⟨gb241,1,none⟩ = some (.int .i64 a0_1) := (blk_cell BK241.out 1).trans rfl;have hcz62_2 : w61.cell? ⟨gb241,2,none⟩ = some (.int .i64 a0_2) := (blk_cell BK241.out 2).trans rfl;have hcz62_3 : w61.cell? ⟨gb241,3,none⟩ = some (.int .i64 a0_3) := (blk_cell BK241.out 3).trans rfl;have hcz62_4 : w61.cell? ⟨gb241,4,none⟩ = some (.int .i64 a0_4) := (blk_cell BK241.out 4).trans rfl;have hcz62_5 : w61.cell? ⟨gb241,5,none⟩ = some (.slice A0_5 l0_5.length c0_5) := (blk_cell BK241.out 5).trans rfl;have hfz62_0 := blk_frozen BK241.out 0;have hfz62_1 := blk_frozen BK241.out 1;have hfz62_2 := blk_frozen BK241.out 2;have hfz62_3 := blk_frozen BK241.out 3;have hfz62_4 := blk_frozen BK241.out 4;have hfz62_5 := blk_frozen BK241.out 5))
      have n0_ := Aside0.mk (blk_drew BK241.out)
      have n1_ := Aside0.mk (blk_drew BK242.out)
      have n2_ := Aside0.mk (below_drew1 HB.out)
      clear BK241
      clear BK242
      clear HB
      have BK241 := n0_
      have BK242 := n1_
      have HB := n2_
      clear n0_ n1_ n2_
      refine start_ (n := 12) (S := fun w' => w'.cell? ⟨gb241,0,none⟩ = some (.int .i64 a0_0) ∧ w'.cell? ⟨gb241,1,none⟩ = some (.int .i64 a0_1) ∧ w'.cell? ⟨gb241,2,none⟩ = some (.int .i64 a0_2) ∧ w'.cell? ⟨gb241,3,none⟩ = some (.int .i64 a0_3) ∧ w'.cell? ⟨gb241,4,none⟩ = some (.int .i64 a0_4) ∧ w'.cell? ⟨gb241,5,none⟩ = some (.slice A0_5 l0_5.length c0_5) ∧ w'.cell? ⟨gb242,0,none⟩ = some (.int .u64 a1_0) ∧ w'.cell? ⟨gb242,1,none⟩ = some (.slice A1_1 l1_1.length c1_1) ∧ w'.cell? ⟨gb242,2,none⟩ = some (.slice A1_2 l1_2.length c1_2)) (ds := []) #[false,false,false,false,false,false,false,false,false,false,false,false] (by kernel_rfl) rfl rfl ⟨(blk_cell BK241.out 0).trans rfl,(blk_cell BK241.out 1).trans rfl,(blk_cell BK241.out 2).trans rfl,(blk_cell BK241.out 3).trans rfl,(blk_cell BK241.out 4).trans rfl,(blk_cell BK241.out 5).trans rfl,(blk_cell BK242.out 0).trans rfl,(blk_cell BK242.out 1).trans rfl,(blk_cell BK242.out 2).trans rfl⟩ (fun hHeld => ?_);refine with_tabW value_fit.tab13 value_fit.bits13 (fun HT_ HW_ => ?_)
      generalize w61.drew = w63 at BK241 BK242 HB hHeld ⊢
      refine pure_ (i := 0) (N := some 67) (v := ?_) (a' := ?_) #[true,false,false,false,false,false,false,false,false,false,false,false] rfl rfl (any_of HT_.out (by kernel_rfl)) (fun _ _ _ h => h) (Or.inl ⟨by rfl,?_⟩) ?_ ?_
      rotate_left
      ·intro w'
       go_simp
       with_reducible rfl
      rotate_left
      ·simp only [Act.put,List.setIfInBounds_toArray,List.set_cons_zero,List.set_cons_succ,i64_w,i32_w]
       rfl
      refine pure_ (i := 2) (N := some 69) (v := ?_) (a' := ?_) #[true,false,true,false,false,false,false,false,false,false,false,false] rfl rfl (any_of HT_.out (by kernel_rfl)) (fun _ _ _ h => h) (Or.inl ⟨by rfl,?_⟩) ?_ ?_
      rotate_left
      ·intro w'
       go_simp
       with_reducible rfl
      rotate_left
      ·simp only [Act.put,List.setIfInBounds_toArray,List.set_cons_zero,List.set_cons_succ,i64_w,i32_w]
       rfl
      refine pure_ (i := 5) (N := some 72) (v := ?_) (a' := ?_) #[true,false,true,false,false,true,false,false,false,false,false,false] rfl rfl (any_of HT_.out (by kernel_rfl)) (fun _ _ _ h => h) (Or.inl ⟨by rfl,?_⟩) ?_ ?_
      rotate_left
      ·intro w'
       go_simp
       with_reducible rfl
      rotate_left
      ·simp only [Act.put,List.setIfInBounds_toArray,List.set_cons_zero,List.set_cons_succ,i64_w,i32_w]
       rfl
      refine pure_ (i := 7) (N := some 74) (v := ?_) (a' := ?_) #[true,false,true,false,false,true,false,true,false,false,false,false] rfl rfl (any_of HT_.out (by kernel_rfl)) (fun _ _ _ h => h) (Or.inl ⟨by rfl,?_⟩) ?_ ?_
      rotate_left
      ·intro w'
       go_simp
       with_reducible rfl
      rotate_left
      ·simp only [Act.put,List.setIfInBounds_toArray,List.set_cons_zero,List.set_cons_succ,i64_w,i32_w]
       rfl
      refine take_ (i := 1) (N := some 68) (v := ?_) (a' := ?_) #[true,true,true,false,false,true,false,true,false,false,false,false] rfl rfl (take_ofW HT_.out HW_.out (by kernel_rfl)) (fun _ _ _ h => h) (Or.inl ⟨by rfl,?_⟩) hHeld ?_ ?_
      rotate_left
      ·rintro w' ⟨s0,s1,s2,s3,s4,s5,s6,s7,s8⟩
       go_simp
       with_reducible rfl
      rotate_left
      ·simp only [Act.put,List.setIfInBounds_toArray,List.set_cons_zero,List.set_cons_succ,i64_w,i32_w]
       rfl
      refine take_ (i := 3) (N := some 70) (v := ?_) (a' := ?_) #[true,true,true,true,false,true,false,true,false,false,false,false] rfl rfl (take_ofW HT_.out HW_.out (by kernel_rfl)) (fun _ _ _ h => h) (Or.inl ⟨by rfl,?_⟩) hHeld ?_ ?_
      rotate_left
      ·rintro w' ⟨s0,s1,s2,s3,s4,s5,s6,s7,s8⟩
       go_simp
       with_reducible rfl
      rotate_left
      ·simp only [Act.put,List.setIfInBounds_toArray,List.set_cons_zero,List.set_cons_succ,i64_w,i32_w]
       rfl
      refine pure_ (i := 4) (N := some 71) (v := ?_) (a' := ?_) #[true,true,true,true,true,true,false,true,false,false,false,false] rfl rfl (any_of HT_.out (by kernel_rfl)) (fun _ _ _ h => h) (Or.inl ⟨by rfl,?_⟩) ?_ ?_
      rotate_left
      ·intro w'
       go_simp
       with_reducible rfl
      rotate_left
      ·simp only [Act.put,List.setIfInBounds_toArray,List.set_cons_zero,List.set_cons_succ,i64_w,i32_w]
       rfl
      refine take_ (i := 6) (N := some 73) (v := ?_) (a' := ?_) #[true,true,true,true,true,true,true,true,false,false,false,false] rfl rfl (take_ofW HT_.out HW_.out (by kernel_rfl)) (fun _ _ _ h => h) (Or.inl ⟨by rfl,?_⟩) hHeld ?_ ?_
      rotate_left
      ·rintro w' ⟨s0,s1,s2,s3,s4,s5,s6,s7,s8⟩
       go_simp
       with_reducible rfl
      rotate_left
      ·simp only [Act.put,List.setIfInBounds_toArray,List.set_cons_zero,List.set_cons_succ,i64_w,i32_w]
       rfl
      refine take_ (i := 8) (N := some 75) (v := ?_) (a' := ?_) #[true,true,true,true,true,true,true,true,true,false,false,false] rfl rfl (take_ofW HT_.out HW_.out (by kernel_rfl)) (fun _ _ _ h => h) (Or.inl ⟨by rfl,?_⟩) hHeld ?_ ?_
      rotate_left
      ·rintro w' ⟨s0,s1,s2,s3,s4,s5,s6,s7,s8⟩
       go_simp
       with_reducible rfl
      rotate_left
      ·simp only [Act.put,List.setIfInBounds_toArray,List.set_cons_zero,List.set_cons_succ,i64_w,i32_w]
       rfl
      refine one_ (i := 9) (N := some 76) #[true,true,true,true,true,true,true,true,true,true,false,false] rfl rfl (one_of HT_.out (by kernel_rfl)) (by decide) (fun K hK => ?_)
      refine goes_ Try.func71 (by kernel_rfl) rfl #[.int .i64 (l1_1.length : Int),.int .i64 a0_2,.int .i64 a0_2,.int .i64 1] (by rfl) rfl rfl (by (try simp only [List.map_toArray,List.map_cons,List.map_nil]);first | done | rfl | (simp only [List.length_drop,List.length_take];rfl)) ?_
      with_reducible refine (value_may.calls (l1_1.length : Int) a0_2 a0_2 1 t246 _ A55.out).mono ?_
      rintro e w' ⟨rfl,⟨nd,rfl⟩⟩
      refine ⟨_,rfl,?_⟩
      refine hK.out _ _ ⟨(blk_cell BK241.out 0).trans rfl,(blk_cell BK241.out 1).trans rfl,(blk_cell BK241.out 2).trans rfl,(blk_cell BK241.out 3).trans rfl,(blk_cell BK241.out 4).trans rfl,(blk_cell BK241.out 5).trans rfl,(blk_cell BK242.out 0).trans rfl,(blk_cell BK242.out 1).trans rfl,(blk_cell BK242.out 2).trans rfl⟩ (fun hHeld => ?_)
      clear hK K
      refine norm_ (a' := ?_) ?_ ?_
      rotate_left
      ·show Act.put _ (some 76) _ = _
       simp only [Act.put,List.setIfInBounds_toArray,List.set_cons_zero,List.set_cons_succ,i64_w,i32_w]
       rfl
      refine pure_ (i := 10) (N := some 4) (v := ?_) (a' := ?_) #[true,true,true,true,true,true,true,true,true,true,true,false] rfl rfl (any_of HT_.out (by kernel_rfl)) (fun _ _ _ h => h) (Or.inl ⟨by rfl,?_⟩) ?_ ?_
      rotate_left
      ·intro w'
       go_simp
       with_reducible rfl
      rotate_left
      ·simp only [Act.put,List.setIfInBounds_toArray,List.set_cons_zero,List.set_cons_succ,i64_w,i32_w]
       rfl
      refine pure_ (i := 11) (N := some 5) (v := ?_) (a' := ?_) #[true,true,true,true,true,true,true,true,true,true,true,true] rfl rfl (any_of HT_.out (by kernel_rfl)) (fun _ _ _ h => h) (Or.inl ⟨by rfl,?_⟩) ?_ ?_
      rotate_left
      ·intro w'
       go_simp
       with_reducible rfl
      rotate_left
      ·simp only [Act.put,List.setIfInBounds_toArray,List.set_cons_zero,List.set_cons_succ,i64_w,i32_w]
       rfl
      refine done_ (done_of HT_.out (by kernel_rfl)) ?_
      try go_wp2
      go_ret2
      exact ⟨by first | rfl | (simp [errW_none,errW_some] <;> rfl) | (simp [*,errW_none,errW_some] <;> rfl),by repeat (first | (with_reducible first | exact HB.out | apply below_alloc | apply pw_below_drewN | apply below_drew1 | refine below_set ?_ GE241.out | refine below_set ?_ GE242.out) | exact HB.out)⟩
     ·rw [if_neg c54] at H
      have c54b0 : (a0_0 == 5) = false := beq_eq_false_iff_ne.mpr c54
      have c54b1 : (a0_0 != 5) = true := bne_iff_ne.mpr c54
      have HC64 := Aside0.mk H
      clear H
      go_enter Try.func66,Try.ntmps66
      go_upto_region 14 with (first | ((with_reducible refine gate_dst (N := 2) rfl ?_);(try (refine gate_guard (by rfl) ?_;dsimp only));refine box_event ?hg (N := 2) ?hd (cs := #[.int .i64 a0_0,.int .i64 a0_1,.int .i64 a0_2,.int .i64 a0_3,.int .i64 a0_4,.slice A0_5 l0_5.length c0_5]) (t := 27) ?hr ?_;(case hd => rfl);(case hg => rfl);(case hr => first | (go_simp;done) | (go_simp;rfl));intro gb241 hg w65 hbox hb;have n0_ := Aside0.mk (below_step (by repeat (first | (with_reducible first | exact HB.out | apply below_alloc | apply pw_below_drewN | apply below_drew1) | exact HB.out)) hb);have n1_ := Aside0.mk (hbox);have n2_ := Aside0.mk ((by rw [hg];exact (below_size (by repeat (first | (with_reducible first | exact HB.out | apply below_alloc | apply pw_below_drewN | apply below_drew1) | exact HB.out))) : w.heap.size ≤ gb241));have n3_ := Aside0.mk ((by rw [hg];exact (below_size (by repeat (first | (with_reducible first | exact HB.out | apply below_alloc | apply pw_below_drewN | apply below_drew1) | exact HB.out))) : w.heap.size ≤ gb241));clear HB;have HB := n0_;have BK241 := n1_;have GW241 := n2_;have GE241 := n3_;clear n0_ n1_ n2_ n3_;clear hb hbox hg) | ((with_reducible refine gate_dst (N := 3) rfl ?_);(try (refine gate_guard (by rfl) ?_;dsimp only));refine box_event ?hg (N := 3) ?hd (cs := #[.int .u64 a1_0,.slice A1_1 l1_1.length c1_1,.slice A1_2 l1_2.length c1_2]) (t := 46) ?hr ?_;(case hd => rfl);(case hg => rfl);(case hr => first | (go_simp;done) | (go_simp;rfl));intro gb242 hg w66 hbox hb;have n0_ := Aside0.mk (blk_below (g := gb241) (o := .cells #[.int .i64 a0_0,.int .i64 a0_1,.int .i64 a0_2,.int .i64 a0_3,.int .i64 a0_4,.slice A0_5 l0_5.length c0_5] 27 (0,0)) (by (with_reducible repeat (first | refine blk_drewN ?_ _ | refine blk_drew ?_ | refine blk_alloc ?_ _));exact BK241.out) hb);have n1_ := Aside0.mk (below_step (by repeat (first | (with_reducible first | exact HB.out | apply below_alloc | apply pw_below_drewN | apply below_drew1 | refine below_set ?_ GE241.out) | exact HB.out)) hb);have n2_ := Aside0.mk (hbox);have n3_ := Aside0.mk ((by rw [hg];exact (below_size (by repeat (first | (with_reducible first | exact HB.out | apply below_alloc | apply pw_below_drewN | apply below_drew1 | refine below_set ?_ GE241.out) | exact HB.out))) : w.heap.size ≤ gb242));have n4_ := Aside0.mk ((by rw [hg];exact (below_size (by repeat (first | (with_reducible first | exact HB.out | apply below_alloc | apply pw_below_drewN | apply below_drew1 | refine below_set ?_ GE241.out) | exact HB.out))) : w.heap.size ≤ gb242));have n5_ := Aside0.mk ((by rw [hg];exact Nat.ne_of_lt (blk_lt (g := gb241) (o := .cells #[.int .i64 a0_0,.int .i64 a0_1,.int .i64 a0_2,.int .i64 a0_3,.int .i64 a0_4,.slice A0_5 l0_5.length c0_5] 27 (0,0)) (by (with_reducible repeat (first | refine blk_drewN ?_ _ | refine blk_drew ?_ | refine blk_alloc ?_ _));exact BK241.out)) : gb241 ≠ gb242));have n6_ := Aside0.mk ((by rw [hg];exact Nat.ne_of_gt (blk_lt (g := gb241) (o := .cells #[.int .i64 a0_0,.int .i64 a0_1,.int .i64 a0_2,.int .i64 a0_3,.int .i64 a0_4,.slice A0_5 l0_5.length c0_5] 27 (0,0)) (by (with_reducible repeat (first | refine blk_drewN ?_ _ | refine blk_drew ?_ | refine blk_alloc ?_ _));exact BK241.out)) : gb242 ≠ gb241));clear BK241;clear HB;have BK241 := n0_;have HB := n1_;have BK242 := n2_;have GW242 := n3_;have GE242 := n4_;have NB241_242 := n5_;have NB242_241 := n6_;clear n0_ n1_ n2_ n3_ n4_ n5_ n6_;clear hb hbox hg;have hnb67 := NB241_242.out;have hnc67 := NB242_241.out;have hcz68_0 : w66.cell? ⟨gb241,0,none⟩ = some (.int .i64 a0_0) := (blk_cell BK241.out 0).trans rfl;have hcz68_1 : w66.cell? ⟨gb241,1,none⟩ = some (.int .i64 a0_1) := (blk_cell BK241.out 1).trans rfl;have hcz68_2 : w66.cell? ⟨gb241,2,none⟩ = some (.int .i64 a0_2) := (blk_cell BK241.out 2).trans rfl;have hcz68_3 : w66.cell? ⟨gb241,3,none⟩ = some (.int .i64 a0_3) := (blk_cell BK241.out 3).trans rfl;have hcz68_4 : w66.cell? ⟨gb241,4,none⟩ = some (.int .i64 a0_4) := (blk_cell BK241.out 4).trans rfl;have hcz68_5 : w66.cell? ⟨gb241,5,none⟩ = some (.slice A0_5 l0_5.length c0_5) := (blk_cell BK241.out 5).trans rfl;have hfz68_0 := blk_frozen BK241.out 0;have hfz68_1 := blk_frozen BK241.out 1;have hfz68_2 := blk_frozen BK241.out 2;have hfz68_3 := blk_frozen BK241.out 3;have hfz68_4 := blk_frozen BK241.out 4;have hfz68_5 := blk_frozen BK241.out 5;have hcz69_0 : w66.cell? ⟨gb242,0,none⟩ = some (.int .u64 a1_0) := (blk_cell BK242.out 0).trans rfl;have hcz69_1 : w66.cell? ⟨gb242,1,none⟩ = some (.slice A1_1 l1_1.length c1_1) := (blk_cell BK242.out 1).trans rfl;have hcz69_2 : w66.cell? ⟨gb242,2,none⟩ = some (.slice A1_2 l1_2.length c1_2) := (blk_cell BK242.out 2).trans rfl;have hfz69_0 := blk_frozen BK242.out 0;have hfz69_1 := blk_frozen BK242.out 1;have hfz69_2 := blk_frozen BK242.out 2) | ((with_reducible refine gate_callee (f := 70) rfl ?_);refine goesL_ (some 14) rfl rfl Try.func70 (by kernel_rfl) rfl #[.int .i64 a0_0,.agg #[.int .u64 a1_0,.slice A1_1 l1_1.length c1_1,.slice A1_2 l1_2.length c1_2]] rfl (by (try simp only [List.map_toArray,List.map_cons,List.map_nil]);first | done | rfl | (simp only [List.length_drop,List.length_take];rfl)) ?_;(with_reducible refine (value_alone.calls a0_0 a1_0 _ _ l1_1 _ _ l1_2 true _ ?side1 ?side2 ?side3 ?side4 A3.out).mono ?_);(case side1 => repeat (first | exact (Kd.C_below HR1_1.out HB.out) | (with_reducible refine Kd.C_alloc ?_ _) | (with_reducible refine Kd.C_drewN ?_ _) | (with_reducible refine Kd.C_drew ?_)));(case side2 => exact HC1_1.out);(case side3 => repeat (first | exact (Kd.C_below HR1_2.out HB.out) | (with_reducible refine Kd.C_alloc ?_ _) | (with_reducible refine Kd.C_drewN ?_ _) | (with_reducible refine Kd.C_drew ?_)));(case side4 => exact HC1_2.out);rintro e w70 ⟨rfl,hb⟩;refine ⟨_,rfl,?_⟩;have n0_ := Aside0.mk (blk_below (g := gb241) (o := .cells #[.int .i64 a0_0,.int .i64 a0_1,.int .i64 a0_2,.int .i64 a0_3,.int .i64 a0_4,.slice A0_5 l0_5.length c0_5] 27 (0,0)) (by (with_reducible repeat (first | refine blk_drewN ?_ _ | refine blk_drew ?_ | refine blk_alloc ?_ _));exact BK241.out) hb);have n1_ := Aside0.mk (blk_below (g := gb242) (o := .cells #[.int .u64 a1_0,.slice A1_1 l1_1.length c1_1,.slice A1_2 l1_2.length c1_2] 46 (0,0)) (by (with_reducible repeat (first | refine blk_drewN ?_ _ | refine blk_drew ?_ | refine blk_alloc ?_ _));exact BK242.out) hb);have n2_ := Aside0.mk (below_step (by repeat (first | (with_reducible first | exact HB.out | apply below_alloc | apply pw_below_drewN | apply below_drew1 | refine below_set ?_ GE241.out | refine below_set ?_ GE242.out) | exact HB.out)) hb);clear BK241;clear BK242;clear HB;have BK241 := n0_;have BK242 := n1_;have HB := n2_;clear n0_ n1_ n2_;(try clear hb);(try clear hb2);(try clear hk);(try clear hi);have hcz71_0 : w70.cell? ⟨gb241,0,none⟩ = some (.int .i64 a0_0) := (blk_cell BK241.out 0).trans rfl;have hcz71_1 : w70.cell? ⟨gb241,1,none⟩ = some (.int .i64 a0_1) := (blk_cell BK241.out 1).trans rfl;have hcz71_2 : w70.cell? ⟨gb241,2,none⟩ = some (.int .i64 a0_2) := (blk_cell BK241.out 2).trans rfl;have hcz71_3 : w70.cell? ⟨gb241,3,none⟩ = some (.int .i64 a0_3) := (blk_cell BK241.out 3).trans rfl;have hcz71_4 : w70.cell? ⟨gb241,4,none⟩ = some (.int .i64 a0_4) := (blk_cell BK241.out 4).trans rfl;have hcz71_5 : w70.cell? ⟨gb241,5,none⟩ = some (.slice A0_5 l0_5.length c0_5) := (blk_cell BK241.out 5).trans rfl;have hfz71_0 := blk_frozen BK241.out 0;have hfz71_1 := blk_frozen BK241.out 1;have hfz71_2 := blk_frozen BK241.out 2;have hfz71_3 := blk_frozen BK241.out 3;have hfz71_4 := blk_frozen BK241.out 4;have hfz71_5 := blk_frozen BK241.out 5))
      (try simp only [Act.put,List.setIfInBounds_toArray,List.set_cons_zero,List.set_cons_succ])
      go_cut [88] (fun v88 wc => ∃ (kq : Nat) (x88_63 : Bool),v88 = .bool x88_63 ∧ Aside0 (value_fit.j0 kq x88_63 a0_0 a0_1 a0_2 a0_3 a0_4 l0_5 a1_0 l1_1 l1_2 = some (r1,r2)) ∧ Aside0 (kq ≤ k) ∧ Aside0 (wc.heap[gb241]? = some (.cells #[.int .i64 a0_0,.int .i64 a0_1,.int .i64 a0_2,.int .i64 a0_3,.int .i64 a0_4,(.slice A0_5 l0_5.length c0_5)] 27 (0,0))) ∧ Aside0 (wc.heap[gb242]? = some (.cells #[.int .u64 a1_0,(.slice A1_1 l1_1.length c1_1),(.slice A1_2 l1_2.length c1_2)] 46 (0,0))) ∧ Aside0 (Below w.heap.size w wc))
      case first =>
       have H := HC64.out
       clear HC64
       by_cases c72 : a0_0 = 3
       ·rw [if_pos c72] at H
        have c72b0 : (a0_0 == 3) = true := beq_iff_eq.mpr c72
        have c72b1 : (a0_0 != 3) = false := bne_eq_false_iff_eq.mpr c72
        clear c72
        (first | rw [c72b0] | (simp only [i64_w,i32_w];rw [c72b0]) | skip)
        have H' := Aside0.mk H
        clear H
        have hnb73 := NB241_242.out
        have hnc73 := NB242_241.out
        have hcz74_0 : w70.cell? ⟨gb241,0,none⟩ = some (.int .i64 a0_0) := (blk_cell BK241.out 0).trans rfl
        have hcz74_1 : w70.cell? ⟨gb241,1,none⟩ = some (.int .i64 a0_1) := (blk_cell BK241.out 1).trans rfl
        have hcz74_2 : w70.cell? ⟨gb241,2,none⟩ = some (.int .i64 a0_2) := (blk_cell BK241.out 2).trans rfl
        have hcz74_3 : w70.cell? ⟨gb241,3,none⟩ = some (.int .i64 a0_3) := (blk_cell BK241.out 3).trans rfl
        have hcz74_4 : w70.cell? ⟨gb241,4,none⟩ = some (.int .i64 a0_4) := (blk_cell BK241.out 4).trans rfl
        have hcz74_5 : w70.cell? ⟨gb241,5,none⟩ = some (.slice A0_5 l0_5.length c0_5) := (blk_cell BK241.out 5).trans rfl
        have hfz74_0 := blk_frozen BK241.out 0
        have hfz74_1 := blk_frozen BK241.out 1
        have hfz74_2 := blk_frozen BK241.out 2
        have hfz74_3 := blk_frozen BK241.out 3
        have hfz74_4 := blk_frozen BK241.out 4
        have hfz74_5 := blk_frozen BK241.out 5
        have hcz75_0 : w70.cell? ⟨gb242,0,none⟩ = some (.int .u64 a1_0) := (blk_cell BK242.out 0).trans rfl
        have hcz75_1 : w70.cell? ⟨gb242,1,none⟩ = some (.slice A1_1 l1_1.length c1_1) := (blk_cell BK242.out 1).trans rfl
        have hcz75_2 : w70.cell? ⟨gb242,2,none⟩ = some (.slice A1_2 l1_2.length c1_2) := (blk_cell BK242.out 2).trans rfl
        have hfz75_0 := blk_frozen BK242.out 0
        have hfz75_1 := blk_frozen BK242.out 1
        have hfz75_2 := blk_frozen BK242.out 2
        go_wp2
        go_meet
        case rel => exact ⟨_,(((l1_2.length : Int) != (l0_5.length : Int))),(by first | rfl | (simp;done) | (simp [*];done)),H',⟨by first | omega | exact Nat.le_refl _⟩,⟨by (with_reducible repeat (first | refine blk_drewN ?_ _ | refine blk_drew ?_ | refine blk_alloc ?_ _));exact BK241.out⟩,⟨by (with_reducible repeat (first | refine blk_drewN ?_ _ | refine blk_drew ?_ | refine blk_alloc ?_ _));exact BK242.out⟩,⟨by repeat (first | (with_reducible first | exact HB.out | apply below_alloc | apply pw_below_drewN | apply below_drew1 | refine below_set ?_ GE241.out | refine below_set ?_ GE242.out) | exact HB.out)⟩⟩
       ·rw [if_neg c72] at H
        have c72b0 : (a0_0 == 3) = false := beq_eq_false_iff_ne.mpr c72
        have c72b1 : (a0_0 != 3) = true := bne_iff_ne.mpr c72
        (first | rw [c72b0] | (simp only [i64_w,i32_w];rw [c72b0]) | skip)
        have H' := Aside0.mk H
        clear H
        have hnb76 := NB241_242.out
        have hnc76 := NB242_241.out
        have hcz77_0 : w70.cell? ⟨gb241,0,none⟩ = some (.int .i64 a0_0) := (blk_cell BK241.out 0).trans rfl
        have hcz77_1 : w70.cell? ⟨gb241,1,none⟩ = some (.int .i64 a0_1) := (blk_cell BK241.out 1).trans rfl
        have hcz77_2 : w70.cell? ⟨gb241,2,none⟩ = some (.int .i64 a0_2) := (blk_cell BK241.out 2).trans rfl
        have hcz77_3 : w70.cell? ⟨gb241,3,none⟩ = some (.int .i64 a0_3) := (blk_cell BK241.out 3).trans rfl
        have hcz77_4 : w70.cell? ⟨gb241,4,none⟩ = some (.int .i64 a0_4) := (blk_cell BK241.out 4).trans rfl
        have hcz77_5 : w70.cell? ⟨gb241,5,none⟩ = some (.slice A0_5 l0_5.length c0_5) := (blk_cell BK241.out 5).trans rfl
        have hfz77_0 := blk_frozen BK241.out 0
        have hfz77_1 := blk_frozen BK241.out 1
        have hfz77_2 := blk_frozen BK241.out 2
        have hfz77_3 := blk_frozen BK241.out 3
        have hfz77_4 := blk_frozen BK241.out 4
        have hfz77_5 := blk_frozen BK241.out 5
        go_wp2
        go_meet
        case rel => exact ⟨_,(false),(by first | rfl | (simp;done) | (simp [*];done)),H',⟨by first | omega | exact Nat.le_refl _⟩,⟨by (with_reducible repeat (first | refine blk_drewN ?_ _ | refine blk_drew ?_ | refine blk_alloc ?_ _));exact BK241.out⟩,⟨by (with_reducible repeat (first | refine blk_drewN ?_ _ | refine blk_drew ?_ | refine blk_alloc ?_ _));exact BK242.out⟩,⟨by repeat (first | (with_reducible first | exact HB.out | apply below_alloc | apply pw_below_drewN | apply below_drew1 | refine below_set ?_ GE241.out | refine below_set ?_ GE242.out) | exact HB.out)⟩⟩
      case rest =>
       clear HC64
       try clear c1
       try clear c2
       try clear p2
       try clear c3
       try clear c4
       try clear c5
       try clear c5b0
       try clear c5b1
       try clear c6
       try clear c6b0
       try clear p6
       try clear c7
       try clear c8
       try clear c8b0
       try clear c8b1
       try clear c10
       try clear c10b0
       try clear c10b1
       try clear c13
       try clear c21
       try clear c29
       try clear c34
       try clear c34b0
       try clear c34b1
       try clear c38
       try clear c44
       try clear c44b0
       try clear c44b1
       try clear c48
       try clear c54
       try clear c54b0
       try clear c54b1
       try clear c58
       try clear p64
       try clear c66
       try clear c67
       try clear c70
       try clear c71
       try clear c72
       try clear c72b0
       try clear c72b1
       try clear c73
       try clear c76
       try clear hcz14_0
       try clear hcz14_1
       try clear hcz14_2
       try clear hcz14_3
       try clear hcz14_4
       try clear hcz14_5
       try clear hcz15_0
       try clear hcz15_1
       try clear hcz15_2
       try clear hcz17_0
       try clear hcz17_1
       try clear hcz17_2
       try clear hcz17_3
       try clear hcz17_4
       try clear hcz17_5
       try clear hcz18_0
       try clear hcz18_1
       try clear hcz18_2
       try clear hcz22_0
       try clear hcz22_1
       try clear hcz22_2
       try clear hcz22_3
       try clear hcz22_4
       try clear hcz22_5
       try clear hcz23_0
       try clear hcz23_1
       try clear hcz23_2
       try clear hcz25_0
       try clear hcz25_1
       try clear hcz25_2
       try clear hcz25_3
       try clear hcz25_4
       try clear hcz25_5
       try clear hcz26_0
       try clear hcz26_1
       try clear hcz26_2
       try clear hcz30_0
       try clear hcz30_1
       try clear hcz30_2
       try clear hcz30_3
       try clear hcz30_4
       try clear hcz30_5
       try clear hcz31_0
       try clear hcz31_1
       try clear hcz31_2
       try clear hcz33_0
       try clear hcz33_1
       try clear hcz33_2
       try clear hcz33_3
       try clear hcz33_4
       try clear hcz33_5
       try clear hcz39_0
       try clear hcz39_1
       try clear hcz39_2
       try clear hcz39_3
       try clear hcz39_4
       try clear hcz39_5
       try clear hcz40_0
       try clear hcz40_1
       try clear hcz40_2
       try clear hcz42_0
       try clear hcz42_1
       try clear hcz42_2
       try clear hcz42_3
       try clear hcz42_4
       try clear hcz42_5
       try clear hcz49_0
       try clear hcz49_1
       try clear hcz49_2
       try clear hcz49_3
       try clear hcz49_4
       try clear hcz49_5
       try clear hcz50_0
       try clear hcz50_1
       try clear hcz50_2
       try clear hcz52_0
       try clear hcz52_1
       try clear hcz52_2
       try clear hcz52_3
       try clear hcz52_4
       try clear hcz52_5
       try clear hcz59_0
       try clear hcz59_1
       try clear hcz59_2
       try clear hcz59_3
       try clear hcz59_4
       try clear hcz59_5
       try clear hcz60_0
       try clear hcz60_1
       try clear hcz60_2
       try clear hcz62_0
       try clear hcz62_1
       try clear hcz62_2
       try clear hcz62_3
       try clear hcz62_4
       try clear hcz62_5
       try clear hcz68_0
       try clear hcz68_1
       try clear hcz68_2
       try clear hcz68_3
       try clear hcz68_4
       try clear hcz68_5
       try clear hcz69_0
       try clear hcz69_1
       try clear hcz69_2
       try clear hcz71_0
       try clear hcz71_1
       try clear hcz71_2
       try clear hcz71_3
       try clear hcz71_4
       try clear hcz71_5
       try clear hcz74_0
       try clear hcz74_1
       try clear hcz74_2
       try clear hcz74_3
       try clear hcz74_4
       try clear hcz74_5
       try clear hcz75_0
       try clear hcz75_1
       try clear hcz75_2
       try clear hcz77_0
       try clear hcz77_1
       try clear hcz77_2
       try clear hcz77_3
       try clear hcz77_4
       try clear hcz77_5
       try clear hfz14_0
       try clear hfz14_1
       try clear hfz14_2
       try clear hfz14_3
       try clear hfz14_4
       try clear hfz14_5
       try clear hfz15_0
       try clear hfz15_1
       try clear hfz15_2
       try clear hfz17_0
       try clear hfz17_1
       try clear hfz17_2
       try clear hfz17_3
       try clear hfz17_4
       try clear hfz17_5
       try clear hfz18_0
       try clear hfz18_1
       try clear hfz18_2
       try clear hfz22_0
       try clear hfz22_1
       try clear hfz22_2
       try clear hfz22_3
       try clear hfz22_4
       try clear hfz22_5
       try clear hfz23_0
       try clear hfz23_1
       try clear hfz23_2
       try clear hfz25_0
       try clear hfz25_1
       try clear hfz25_2
       try clear hfz25_3
       try clear hfz25_4
       try clear hfz25_5
       try clear hfz26_0
       try clear hfz26_1
       try clear hfz26_2
       try clear hfz30_0
       try clear hfz30_1
       try clear hfz30_2
       try clear hfz30_3
       try clear hfz30_4
       try clear hfz30_5
       try clear hfz31_0
       try clear hfz31_1
       try clear hfz31_2
       try clear hfz33_0
       try clear hfz33_1
       try clear hfz33_2
       try clear hfz33_3
       try clear hfz33_4
       try clear hfz33_5
       try clear hfz39_0
       try clear hfz39_1
       try clear hfz39_2
       try clear hfz39_3
       try clear hfz39_4
       try clear hfz39_5
       try clear hfz40_0
       try clear hfz40_1
       try clear hfz40_2
       try clear hfz42_0
       try clear hfz42_1
       try clear hfz42_2
       try clear hfz42_3
       try clear hfz42_4
       try clear hfz42_5
       try clear hfz49_0
       try clear hfz49_1
       try clear hfz49_2
       try clear hfz49_3
       try clear hfz49_4
       try clear hfz49_5
       try clear hfz50_0
       try clear hfz50_1
       try clear hfz50_2
       try clear hfz52_0
       try clear hfz52_1
       try clear hfz52_2
       try clear hfz52_3
       try clear hfz52_4
       try clear hfz52_5
       try clear hfz59_0
       try clear hfz59_1
       try clear hfz59_2
       try clear hfz59_3
       try clear hfz59_4
       try clear hfz59_5
       try clear hfz60_0
       try clear hfz60_1
       try clear hfz60_2
       try clear hfz62_0
       try clear hfz62_1
       try clear hfz62_2
       try clear hfz62_3
       try clear hfz62_4
       try clear hfz62_5
       try clear hfz68_0
       try clear hfz68_1
       try clear hfz68_2
       try clear hfz68_3
       try clear hfz68_4
       try clear hfz68_5
       try clear hfz69_0
       try clear hfz69_1
       try clear hfz69_2
       try clear hfz71_0
       try clear hfz71_1
       try clear hfz71_2
       try clear hfz71_3
       try clear hfz71_4
       try clear hfz71_5
       try clear hfz74_0
       try clear hfz74_1
       try clear hfz74_2
       try clear hfz74_3
       try clear hfz74_4
       try clear hfz74_5
       try clear hfz75_0
       try clear hfz75_1
       try clear hfz75_2
       try clear hfz77_0
       try clear hfz77_1
       try clear hfz77_2
       try clear hfz77_3
       try clear hfz77_4
       try clear hfz77_5
       obtain ⟨kq,x88_63,rfl,HA,HJ63,BK241,BK242,HB⟩ := hcut
       cases kq with
       | zero => exact absurd HA.out (by simp [value_fit.j0])
       | succ kj63 =>
        have H := HA.out
        clear HA
        simp only [value_fit.j0] at H
        by_cases c78 : x88_63 = true
        ·subst c78
         have H1 : (some (0,15)) = some (r1,r2) := by rw [if_pos rfl] at H;exact H
         clear H
         have H := H1
         clear H1
         simp only [Option.some.injEq,Prod.mk.injEq] at H
         obtain ⟨rfl,rfl⟩ := H
         go_wp2
         go_ret2
         exact ⟨by first | rfl | (simp [errW_none,errW_some] <;> rfl) | (simp [*,errW_none,errW_some] <;> rfl),by repeat (first | (with_reducible first | exact HB.out | apply below_alloc | apply pw_below_drewN | apply below_drew1 | refine below_set ?_ GE241.out | refine below_set ?_ GE242.out) | exact HB.out)⟩
        ·replace c78 := Bool.eq_false_iff.mpr c78
         subst c78
         have H1 : (value_fit.l0 kj63 0 l1_2 (l1_2.length : Int) 0 a0_0 a0_1 a0_2 a0_3 a0_4 l0_5) = some (r1,r2) := by rw [if_neg (show ¬ (false = true) by decide)] at H;exact H
         clear H
         have H := H1
         clear H1
         have H' := Aside0.mk H
         clear H
         have hnb79 := NB242_241.out
         have hnc79 := NB241_242.out
         have hcz80_0 : wc.cell? ⟨gb242,0,none⟩ = some (.int .u64 a1_0) := (blk_cell BK242.out 0).trans rfl
         have hcz80_1 : wc.cell? ⟨gb242,1,none⟩ = some (.slice A1_1 l1_1.length c1_1) := (blk_cell BK242.out 1).trans rfl
         have hcz80_2 : wc.cell? ⟨gb242,2,none⟩ = some (.slice A1_2 l1_2.length c1_2) := (blk_cell BK242.out 2).trans rfl
         have hfz80_0 := blk_frozen BK242.out 0
         have hfz80_1 := blk_frozen BK242.out 1
         have hfz80_2 := blk_frozen BK242.out 2
         go_wp2
         go_loopg [6,92] kj63 (fun kq v6 v92 w' => ∃ (x6_2 : Int) (x92_2 : Int),v6 = .int .i64 x6_2 ∧ v92 = .int .i64 x92_2 ∧ Aside0 (value_fit.l0 kq x6_2 l1_2 (l1_2.length : Int) x92_2 a0_0 a0_1 a0_2 a0_3 a0_4 l0_5 = some (r1,r2)) ∧ Aside0 (kq ≤ kj63) ∧ Aside0 (w'.heap[gb241]? = some (.cells #[.int .i64 a0_0,.int .i64 a0_1,.int .i64 a0_2,.int .i64 a0_3,.int .i64 a0_4,(.slice A0_5 l0_5.length c0_5)] 27 (0,0))) ∧ Aside0 (w'.heap[gb242]? = some (.cells #[.int .u64 a1_0,(.slice A1_1 l1_1.length c1_1),(.slice A1_2 l1_2.length c1_2)] 46 (0,0))) ∧ Aside0 (Below w.heap.size w w'))
         case atStart => exact ⟨(0),(0),(by first | rfl | (simp;done) | (simp [*];done)),(by first | rfl | (simp;done) | (simp [*];done)),H',⟨Nat.le_refl _⟩,⟨by (with_reducible repeat (first | refine blk_drewN ?_ _ | refine blk_drew ?_ | refine blk_alloc ?_ _));exact BK241.out⟩,⟨by (with_reducible repeat (first | refine blk_drewN ?_ _ | refine blk_drew ?_ | refine blk_alloc ?_ _));exact BK242.out⟩,⟨by repeat (first | (with_reducible first | exact HB.out | apply below_alloc | apply pw_below_drewN | apply below_drew1 | refine below_set ?_ GE241.out | refine below_set ?_ GE242.out) | exact HB.out)⟩⟩
         case round =>
          clear H'
          try clear c1
          try clear c2
          try clear p2
          try clear c3
          try clear c4
          try clear c5
          try clear c5b0
          try clear c5b1
          try clear c6
          try clear c6b0
          try clear p6
          try clear c7
          try clear c8
          try clear c8b0
          try clear c8b1
          try clear c10
          try clear c10b0
          try clear c10b1
          try clear c13
          try clear c21
          try clear c29
          try clear c34
          try clear c34b0
          try clear c34b1
          try clear c38
          try clear c44
          try clear c44b0
          try clear c44b1
          try clear c48
          try clear c54
          try clear c54b0
          try clear c54b1
          try clear c58
          try clear p64
          try clear c66
          try clear c67
          try clear c70
          try clear c71
          try clear c72
          try clear c72b0
          try clear c72b1
          try clear c73
          try clear c76
          try clear c78
          try clear c79
          try clear hcz14_0
          try clear hcz14_1
          try clear hcz14_2
          try clear hcz14_3
          try clear hcz14_4
          try clear hcz14_5
          try clear hcz15_0
          try clear hcz15_1
          try clear hcz15_2
          try clear hcz17_0
          try clear hcz17_1
          try clear hcz17_2
          try clear hcz17_3
          try clear hcz17_4
          try clear hcz17_5
          try clear hcz18_0
          try clear hcz18_1
          try clear hcz18_2
          try clear hcz22_0
          try clear hcz22_1
          try clear hcz22_2
          try clear hcz22_3
          try clear hcz22_4
          try clear hcz22_5
          try clear hcz23_0
          try clear hcz23_1
          try clear hcz23_2
          try clear hcz25_0
          try clear hcz25_1
          try clear hcz25_2
          try clear hcz25_3
          try clear hcz25_4
          try clear hcz25_5
          try clear hcz26_0
          try clear hcz26_1
          try clear hcz26_2
          try clear hcz30_0
          try clear hcz30_1
          try clear hcz30_2
          try clear hcz30_3
          try clear hcz30_4
          try clear hcz30_5
          try clear hcz31_0
          try clear hcz31_1
          try clear hcz31_2
          try clear hcz33_0
          try clear hcz33_1
          try clear hcz33_2
          try clear hcz33_3
          try clear hcz33_4
          try clear hcz33_5
          try clear hcz39_0
          try clear hcz39_1
          try clear hcz39_2
          try clear hcz39_3
          try clear hcz39_4
          try clear hcz39_5
          try clear hcz40_0
          try clear hcz40_1
          try clear hcz40_2
          try clear hcz42_0
          try clear hcz42_1
          try clear hcz42_2
          try clear hcz42_3
          try clear hcz42_4
          try clear hcz42_5
          try clear hcz49_0
          try clear hcz49_1
          try clear hcz49_2
          try clear hcz49_3
          try clear hcz49_4
          try clear hcz49_5
          try clear hcz50_0
          try clear hcz50_1
          try clear hcz50_2
          try clear hcz52_0
          try clear hcz52_1
          try clear hcz52_2
          try clear hcz52_3
          try clear hcz52_4
          try clear hcz52_5
          try clear hcz59_0
          try clear hcz59_1
          try clear hcz59_2
          try clear hcz59_3
          try clear hcz59_4
          try clear hcz59_5
          try clear hcz60_0
          try clear hcz60_1
          try clear hcz60_2
          try clear hcz62_0
          try clear hcz62_1
          try clear hcz62_2
          try clear hcz62_3
          try clear hcz62_4
          try clear hcz62_5
          try clear hcz68_0
          try clear hcz68_1
          try clear hcz68_2
          try clear hcz68_3
          try clear hcz68_4
          try clear hcz68_5
          try clear hcz69_0
          try clear hcz69_1
          try clear hcz69_2
          try clear hcz71_0
          try clear hcz71_1
          try clear hcz71_2
          try clear hcz71_3
          try clear hcz71_4
          try clear hcz71_5
          try clear hcz74_0
          try clear hcz74_1
          try clear hcz74_2
          try clear hcz74_3
          try clear hcz74_4
          try clear hcz74_5
          try clear hcz75_0
          try clear hcz75_1
          try clear hcz75_2
          try clear hcz77_0
          try clear hcz77_1
          try clear hcz77_2
          try clear hcz77_3
          try clear hcz77_4
          try clear hcz77_5
          try clear hcz80_0
          try clear hcz80_1
          try clear hcz80_2
          try clear hfz14_0
          try clear hfz14_1
          try clear hfz14_2
          try clear hfz14_3
          try clear hfz14_4
          try clear hfz14_5
          try clear hfz15_0
          try clear hfz15_1
          try clear hfz15_2
          try clear hfz17_0
          try clear hfz17_1
          try clear hfz17_2
          try clear hfz17_3
          try clear hfz17_4
          try clear hfz17_5
          try clear hfz18_0
          try clear hfz18_1
          try clear hfz18_2
          try clear hfz22_0
          try clear hfz22_1
          try clear hfz22_2
          try clear hfz22_3
          try clear hfz22_4
          try clear hfz22_5
          try clear hfz23_0
          try clear hfz23_1
          try clear hfz23_2
          try clear hfz25_0
          try clear hfz25_1
          try clear hfz25_2
          try clear hfz25_3
          try clear hfz25_4
          try clear hfz25_5
          try clear hfz26_0
          try clear hfz26_1
          try clear hfz26_2
          try clear hfz30_0
          try clear hfz30_1
          try clear hfz30_2
          try clear hfz30_3
          try clear hfz30_4
          try clear hfz30_5
          try clear hfz31_0
          try clear hfz31_1
          try clear hfz31_2
          try clear hfz33_0
          try clear hfz33_1
          try clear hfz33_2
          try clear hfz33_3
          try clear hfz33_4
          try clear hfz33_5
          try clear hfz39_0
          try clear hfz39_1
          try clear hfz39_2
          try clear hfz39_3
          try clear hfz39_4
          try clear hfz39_5
          try clear hfz40_0
          try clear hfz40_1
          try clear hfz40_2
          try clear hfz42_0
          try clear hfz42_1
          try clear hfz42_2
          try clear hfz42_3
          try clear hfz42_4
          try clear hfz42_5
          try clear hfz49_0
          try clear hfz49_1
          try clear hfz49_2
          try clear hfz49_3
          try clear hfz49_4
          try clear hfz49_5
          try clear hfz50_0
          try clear hfz50_1
          try clear hfz50_2
          try clear hfz52_0
          try clear hfz52_1
          try clear hfz52_2
          try clear hfz52_3
          try clear hfz52_4
          try clear hfz52_5
          try clear hfz59_0
          try clear hfz59_1
          try clear hfz59_2
          try clear hfz59_3
          try clear hfz59_4
          try clear hfz59_5
          try clear hfz60_0
          try clear hfz60_1
          try clear hfz60_2
          try clear hfz62_0
          try clear hfz62_1
          try clear hfz62_2
          try clear hfz62_3
          try clear hfz62_4
          try clear hfz62_5
          try clear hfz68_0
          try clear hfz68_1
          try clear hfz68_2
          try clear hfz68_3
          try clear hfz68_4
          try clear hfz68_5
          try clear hfz69_0
          try clear hfz69_1
          try clear hfz69_2
          try clear hfz71_0
          try clear hfz71_1
          try clear hfz71_2
          try clear hfz71_3
          try clear hfz71_4
          try clear hfz71_5
          try clear hfz74_0
          try clear hfz74_1
          try clear hfz74_2
          try clear hfz74_3
          try clear hfz74_4
          try clear hfz74_5
          try clear hfz75_0
          try clear hfz75_1
          try clear hfz75_2
          try clear hfz77_0
          try clear hfz77_1
          try clear hfz77_2
          try clear hfz77_3
          try clear hfz77_4
          try clear hfz77_5
          try clear hfz80_0
          try clear hfz80_1
          try clear hfz80_2
          try clear p2
          try clear p6
          try clear p64
          obtain ⟨x6_2,x92_2,rfl,rfl,HA,HK2,BK241,BK242,HB⟩ := hrel
          cases gk with
          | zero => exact absurd HA.out (by simp [value_fit.l0])
          | succ k2 =>
           have H := HA.out
           clear HA
           simp only [value_fit.l0] at H
           by_cases c81 : x92_2 < (l1_2.length : Int)
           ·rw [if_pos c81] at H
            have c81b0 : decide (x92_2 < (l1_2.length : Int)) = true := decide_eq_true c81
            clear c81
            by_cases c82 : 0 ≤ x92_2
            ·rw [if_pos c82] at H
             have c82b0 : decide (0 ≤ x92_2) = true := decide_eq_true c82
             clear c82
             by_cases c83 : x92_2 < (l1_2.length : Int)
             ·rw [if_pos c83] at H
              have c83b0 : decide (x92_2 < (l1_2.length : Int)) = true := decide_eq_true c83
              clear c83
              by_cases c84 : (l0_5.length : Int) = 0
              ·rw [if_pos c84] at H
               exact absurd H (by simp)
              ·rw [if_neg c84] at H
               have c84b0 : ((l0_5.length : Int) == 0) = false := beq_eq_false_iff_ne.mpr c84
               have c84b1 : ((l0_5.length : Int) != 0) = true := bne_iff_ne.mpr c84
               have c84b2 : ¬ (l0_5 = []) := fun h_ => c84 (by rw [h_];rfl)
               obtain ⟨ji85,hji85⟩ : ∃ j_ : Int,(Int.tmod x92_2 (l0_5.length : Int)) = j_ := ⟨_,rfl⟩
               replace H : (if 0 ≤ (ji85) then (if (ji85) < (l0_5.length : Int) then ((value_fit.f k2 ((rd_T27 l0_5 (ji85)).f0) ((rd_T27 l0_5 (ji85)).f1) ((rd_T27 l0_5 (ji85)).f2) ((rd_T27 l0_5 (ji85)).f3) ((rd_T27 l0_5 (ji85)).f4) ((rd_T27 l0_5 (ji85)).f5) ((rd_T46 l1_2 x92_2).f0) ((rd_T46 l1_2 x92_2).f1) ((rd_T46 l1_2 x92_2).f2)).bind fun bt250 => (if bt250.2 = 0 then (value_fit.l0 k2 (wrap64 (x6_2 + bt250.1)) l1_2 (l1_2.length : Int) (wrap64 (x92_2 + 1)) a0_0 a0_1 a0_2 a0_3 a0_4 l0_5) else (some (0,bt250.2)))) else (none)) else (none)) = some (r1,r2) := by first | (rw [hji85] at H;exact H) | (simp only [hji85] at H ⊢;exact H)
               by_cases c86 : 0 ≤ (ji85)
               ·rw [if_pos c86] at H
                have c86b0 : decide (0 ≤ (ji85)) = true := decide_eq_true c86
                clear c86
                by_cases c87 : (ji85) < (l0_5.length : Int)
                ·rw [if_pos c87] at H
                 have c87b0 : decide ((ji85) < (l0_5.length : Int)) = true := decide_eq_true c87
                 clear c87
                 replace H := Option.bind_eq_some_iff.mp H
                 obtain ⟨⟨t250,t251⟩,A880,H⟩ := H
                 replace H : (if t251 = 0 then (value_fit.l0 k2 (wrap64 (x6_2 + t250)) l1_2 (l1_2.length : Int) (wrap64 (x92_2 + 1)) a0_0 a0_1 a0_2 a0_3 a0_4 l0_5) else (some (0,t251))) = some (r1,r2) := H
                 have A88 := Aside0.mk A880
                 clear A880
                 by_cases c89 : t251 = 0
                 ·rw [if_pos c89] at H
                  have c89b0 : (t251 == 0) = true := beq_iff_eq.mpr c89
                  have c89b1 : (t251 != 0) = false := bne_eq_false_iff_eq.mpr c89
                  clear c89
                  have H' := Aside0.mk H
                  clear H
                  have p247 : 0 ≤ (x92_2 : Int) := of_decide_eq_true (by first | (with_reducible assumption) | assumption)
                  have q247 : x92_2 < (l1_2.length : Int) := of_decide_eq_true (by first | (with_reducible assumption) | assumption)
                  obtain ⟨ad247,A247_1,c247_1,A247_2,c247_2,e247,hx247_0,hx247_1,hx247_2,hl247_1,hi247_1,hl247_2,hi247_2⟩ := at_T46 HR1_2.out x92_2 p247 q247
                  cases e247
                  replace hx247_0 := (HB.out.cell (World.block_lt_of_cell? w _ hx247_0)).trans hx247_0
                  replace hx247_1 := (HB.out.cell (World.block_lt_of_cell? w _ hx247_1)).trans hx247_1
                  replace hx247_2 := (HB.out.cell (World.block_lt_of_cell? w _ hx247_2)).trans hx247_2
                  have HR247_1 := Aside0.mk hi247_1
                  have HC247_1 := Aside0.mk hl247_1
                  clear hi247_1 hl247_1
                  have HR247_2 := Aside0.mk hi247_2
                  have HC247_2 := Aside0.mk hl247_2
                  clear hi247_2 hl247_2
                  replace p247 := eq_true p247
                  replace q247 := eq_true q247
                  try go_wp2_with (first | ((with_reducible refine gate_dst (N := 8) rfl ?_);(try (refine gate_guard (by rfl) ?_;dsimp only));refine box_event ?hg (N := 8) ?hd (cs := #[.int .u64 0,.slice none 0 0,.slice none 0 0]) (t := 46) ?hr ?_;(case hd => rfl);(case hg => rfl);(case hr => first | (go_simp;done) | (go_simp;rfl));intro gb248 hg w90 hbox hb;have n0_ := Aside0.mk (blk_below (g := gb241) (o := .cells #[.int .i64 a0_0,.int .i64 a0_1,.int .i64 a0_2,.int .i64 a0_3,.int .i64 a0_4,.slice A0_5 l0_5.length c0_5] 27 (0,0)) (by (with_reducible repeat (first | refine blk_drewN ?_ _ | refine blk_drew ?_ | refine blk_alloc ?_ _));exact BK241.out) hb);have n1_ := Aside0.mk (blk_below (g := gb242) (o := .cells #[.int .u64 a1_0,.slice A1_1 l1_1.length c1_1,.slice (some ad247) l1_2.length c1_2] 46 (0,0)) (by (with_reducible repeat (first | refine blk_drewN ?_ _ | refine blk_drew ?_ | refine blk_alloc ?_ _));exact BK242.out) hb);have n2_ := Aside0.mk (below_step (by repeat (first | (with_reducible first | exact HB.out | apply below_alloc | apply pw_below_drewN | apply below_drew1 | refine below_set ?_ GE241.out | refine below_set ?_ GE242.out) | exact HB.out)) hb);have n3_ := Aside0.mk (hbox);have n4_ := Aside0.mk ((by rw [hg];exact (below_size (by repeat (first | (with_reducible first | exact HB.out | apply below_alloc | apply pw_below_drewN | apply below_drew1 | refine below_set ?_ GE241.out | refine below_set ?_ GE242.out) | exact HB.out))) : w.heap.size ≤ gb248));have n5_ := Aside0.mk ((by rw [hg];exact (below_size (by repeat (first | (with_reducible first | exact HB.out | apply below_alloc | apply pw_below_drewN | apply below_drew1 | refine below_set ?_ GE241.out | refine below_set ?_ GE242.out) | exact HB.out))) : w.heap.size ≤ gb248));have n6_ := Aside0.mk ((by rw [hg];exact Nat.ne_of_lt (blk_lt (g := gb241) (o := .cells #[.int .i64 a0_0,.int .i64 a0_1,.int .i64 a0_2,.int .i64 a0_3,.int .i64 a0_4,.slice A0_5 l0_5.length c0_5] 27 (0,0)) (by (with_reducible repeat (first | refine blk_drewN ?_ _ | refine blk_drew ?_ | refine blk_alloc ?_ _));exact BK241.out)) : gb241 ≠ gb248));have n7_ := Aside0.mk ((by rw [hg];exact Nat.ne_of_gt (blk_lt (g := gb241) (o := .cells #[.int .i64 a0_0,.int .i64 a0_1,.int .i64 a0_2,.int .i64 a0_3,.int .i64 a0_4,.slice A0_5 l0_5.length c0_5] 27 (0,0)) (by (with_reducible repeat (first | refine blk_drewN ?_ _ | refine blk_drew ?_ | refine blk_alloc ?_ _));exact BK241.out)) : gb248 ≠ gb241));have n8_ := Aside0.mk ((by rw [hg];exact Nat.ne_of_lt (blk_lt (g := gb242) (o := .cells #[.int .u64 a1_0,.slice A1_1 l1_1.length c1_1,.slice (some ad247) l1_2.length c1_2] 46 (0,0)) (by (with_reducible repeat (first | refine blk_drewN ?_ _ | refine blk_drew ?_ | refine blk_alloc ?_ _));exact BK242.out)) : gb242 ≠ gb248));have n9_ := Aside0.mk ((by rw [hg];exact Nat.ne_of_gt (blk_lt (g := gb242) (o := .cells #[.int .u64 a1_0,.slice A1_1 l1_1.length c1_1,.slice (some ad247) l1_2.length c1_2] 46 (0,0)) (by (with_reducible repeat (first | refine blk_drewN ?_ _ | refine blk_drew ?_ | refine blk_alloc ?_ _));exact BK242.out)) : gb248 ≠ gb242));clear BK241;clear BK242;clear HB;have BK241 := n0_;have BK242 := n1_;have HB := n2_;have BK248 := n3_;have GW248 := n4_;have GE248 := n5_;have NB241_248 := n6_;have NB248_241 := n7_;have NB242_248 := n8_;have NB248_242 := n9_;clear n0_ n1_ n2_ n3_ n4_ n5_ n6_ n7_ n8_ n9_;clear hb hbox hg;have hnb91 := NB248_241.out;have hnc91 := NB241_248.out;have hnb92 := NB248_242.out;have hnc92 := NB242_248.out;have hcz93_0 : w90.cell? ⟨gb248,0,none⟩ = some (.int .u64 0) := (blk_cell BK248.out 0).trans rfl;have hcz93_1 : w90.cell? ⟨gb248,1,none⟩ = some (.slice none 0 0) := (blk_cell BK248.out 1).trans rfl;have hcz93_2 : w90.cell? ⟨gb248,2,none⟩ = some (.slice none 0 0) := (blk_cell BK248.out 2).trans rfl;have hfz93_0 := blk_frozen BK248.out 0;have hfz93_1 := blk_frozen BK248.out 1;have hfz93_2 := blk_frozen BK248.out 2))
                  have n0_ : Aside0 ((((w90.setCell ⟨gb248,0,none⟩ (.int .u64 ((rd_T46 l1_2 x92_2).f0))).setCell ⟨gb248,1,none⟩ (.slice A247_1 ((rd_T46 l1_2 x92_2).f1).length c247_1)).setCell ⟨gb248,2,none⟩ (.slice A247_2 ((rd_T46 l1_2 x92_2).f2).length c247_2)).heap[gb241]? = some (.cells #[.int .i64 a0_0,.int .i64 a0_1,.int .i64 a0_2,.int .i64 a0_3,.int .i64 a0_4,.slice A0_5 l0_5.length c0_5] 27 (0,0))) := ⟨by (with_reducible repeat (first | refine blk_drewN ?_ _ | refine blk_drew ?_ | refine blk_alloc ?_ _));refine blk_far ?_ NB241_248.out _;(with_reducible repeat (first | refine blk_drewN ?_ _ | refine blk_drew ?_ | refine blk_alloc ?_ _));refine blk_far ?_ NB241_248.out _;(with_reducible repeat (first | refine blk_drewN ?_ _ | refine blk_drew ?_ | refine blk_alloc ?_ _));refine blk_far ?_ NB241_248.out _;(with_reducible repeat (first | refine blk_drewN ?_ _ | refine blk_drew ?_ | refine blk_alloc ?_ _));exact BK241.out⟩
                  have n1_ : Aside0 ((((w90.setCell ⟨gb248,0,none⟩ (.int .u64 ((rd_T46 l1_2 x92_2).f0))).setCell ⟨gb248,1,none⟩ (.slice A247_1 ((rd_T46 l1_2 x92_2).f1).length c247_1)).setCell ⟨gb248,2,none⟩ (.slice A247_2 ((rd_T46 l1_2 x92_2).f2).length c247_2)).heap[gb242]? = some (.cells #[.int .u64 a1_0,.slice A1_1 l1_1.length c1_1,.slice (some ad247) l1_2.length c1_2] 46 (0,0))) := ⟨by (with_reducible repeat (first | refine blk_drewN ?_ _ | refine blk_drew ?_ | refine blk_alloc ?_ _));refine blk_far ?_ NB242_248.out _;(with_reducible repeat (first | refine blk_drewN ?_ _ | refine blk_drew ?_ | refine blk_alloc ?_ _));refine blk_far ?_ NB242_248.out _;(with_reducible repeat (first | refine blk_drewN ?_ _ | refine blk_drew ?_ | refine blk_alloc ?_ _));refine blk_far ?_ NB242_248.out _;(with_reducible repeat (first | refine blk_drewN ?_ _ | refine blk_drew ?_ | refine blk_alloc ?_ _));exact BK242.out⟩
                  have n2_ : Aside0 ((((w90.setCell ⟨gb248,0,none⟩ (.int .u64 ((rd_T46 l1_2 x92_2).f0))).setCell ⟨gb248,1,none⟩ (.slice A247_1 ((rd_T46 l1_2 x92_2).f1).length c247_1)).setCell ⟨gb248,2,none⟩ (.slice A247_2 ((rd_T46 l1_2 x92_2).f2).length c247_2)).heap[gb248]? = some (.cells #[.int .u64 ((rd_T46 l1_2 x92_2).f0),.slice A247_1 ((rd_T46 l1_2 x92_2).f1).length c247_1,.slice A247_2 ((rd_T46 l1_2 x92_2).f2).length c247_2] 46 (0,0))) := ⟨by (with_reducible repeat (first | refine blk_drewN ?_ _ | refine blk_drew ?_ | refine blk_alloc ?_ _));refine blk_put (cs := #[.int .u64 ((rd_T46 l1_2 x92_2).f0),.slice A247_1 ((rd_T46 l1_2 x92_2).f1).length c247_1,.slice none 0 0]) ?_ 2 _ rfl;(with_reducible repeat (first | refine blk_drewN ?_ _ | refine blk_drew ?_ | refine blk_alloc ?_ _));refine blk_put (cs := #[.int .u64 ((rd_T46 l1_2 x92_2).f0),.slice none 0 0,.slice none 0 0]) ?_ 1 _ rfl;(with_reducible repeat (first | refine blk_drewN ?_ _ | refine blk_drew ?_ | refine blk_alloc ?_ _));refine blk_put (cs := #[.int .u64 0,.slice none 0 0,.slice none 0 0]) ?_ 0 _ rfl;(with_reducible repeat (first | refine blk_drewN ?_ _ | refine blk_drew ?_ | refine blk_alloc ?_ _));exact BK248.out⟩
                  have n3_ : Aside0 (Below w.heap.size w (((w90.setCell ⟨gb248,0,none⟩ (.int .u64 ((rd_T46 l1_2 x92_2).f0))).setCell ⟨gb248,1,none⟩ (.slice A247_1 ((rd_T46 l1_2 x92_2).f1).length c247_1)).setCell ⟨gb248,2,none⟩ (.slice A247_2 ((rd_T46 l1_2 x92_2).f2).length c247_2))) := ⟨by repeat (first | (with_reducible first | exact HB.out | apply below_alloc | apply pw_below_drewN | apply below_drew1 | refine below_set ?_ GE241.out | refine below_set ?_ GE242.out | refine below_set ?_ GE248.out) | exact HB.out)⟩
                  (try clear BK241)
                  (try clear BK242)
                  (try clear BK248)
                  (try clear HB)
                  generalize (((w90.setCell ⟨gb248,0,none⟩ (.int .u64 ((rd_T46 l1_2 x92_2).f0))).setCell ⟨gb248,1,none⟩ (.slice A247_1 ((rd_T46 l1_2 x92_2).f1).length c247_1)).setCell ⟨gb248,2,none⟩ (.slice A247_2 ((rd_T46 l1_2 x92_2).f2).length c247_2)) = w94 at n0_ n1_ n2_ n3_ ⊢
                  have BK241 := n0_
                  have BK242 := n1_
                  have BK248 := n2_
                  have HB := n3_
                  clear n0_ n1_ n2_ n3_
                  have n0_ := Aside0.mk (blk_drew BK241.out)
                  have n1_ := Aside0.mk (blk_drew BK242.out)
                  have n2_ := Aside0.mk (blk_drew BK248.out)
                  have n3_ := Aside0.mk (below_drew1 HB.out)
                  clear BK241
                  clear BK242
                  clear BK248
                  clear HB
                  have BK241 := n0_
                  have BK242 := n1_
                  have BK248 := n2_
                  have HB := n3_
                  clear n0_ n1_ n2_ n3_
                  have p249 : 0 ≤ ((ji85) : Int) := of_decide_eq_true (by first | (with_reducible assumption) | assumption)
                  have q249 : (ji85) < (l0_5.length : Int) := of_decide_eq_true (by first | (with_reducible assumption) | assumption)
                  obtain ⟨ad249,A249_5,c249_5,e249,hx249_0,hx249_1,hx249_2,hx249_3,hx249_4,hx249_5,hl249_5,hi249_5⟩ := at_T27 HR0_5.out (ji85) p249 q249
                  have hw249_5 := hx249_5
                  have hw249_4 := hx249_4
                  have hw249_3 := hx249_3
                  have hw249_2 := hx249_2
                  have hw249_1 := hx249_1
                  have hw249_0 := hx249_0
                  cases e249
                  replace hx249_0 := (HB.out.cell (World.block_lt_of_cell? w _ hx249_0)).trans hx249_0
                  replace hx249_1 := (HB.out.cell (World.block_lt_of_cell? w _ hx249_1)).trans hx249_1
                  replace hx249_2 := (HB.out.cell (World.block_lt_of_cell? w _ hx249_2)).trans hx249_2
                  replace hx249_3 := (HB.out.cell (World.block_lt_of_cell? w _ hx249_3)).trans hx249_3
                  replace hx249_4 := (HB.out.cell (World.block_lt_of_cell? w _ hx249_4)).trans hx249_4
                  replace hx249_5 := (HB.out.cell (World.block_lt_of_cell? w _ hx249_5)).trans hx249_5
                  have HR249_5 := Aside0.mk hi249_5
                  have HC249_5 := Aside0.mk hl249_5
                  clear hi249_5 hl249_5
                  replace p249 := eq_true p249
                  replace q249 := eq_true q249
                  refine start_ (n := 16) (S := fun w' => w'.cell? ⟨gb241,0,none⟩ = some (.int .i64 a0_0) ∧ w'.cell? ⟨gb241,1,none⟩ = some (.int .i64 a0_1) ∧ w'.cell? ⟨gb241,2,none⟩ = some (.int .i64 a0_2) ∧ w'.cell? ⟨gb241,3,none⟩ = some (.int .i64 a0_3) ∧ w'.cell? ⟨gb241,4,none⟩ = some (.int .i64 a0_4) ∧ w'.cell? ⟨gb241,5,none⟩ = some (.slice (some ad249) l0_5.length c0_5) ∧ w'.cell? ⟨gb248,0,none⟩ = some (.int .u64 ((rd_T46 l1_2 x92_2).f0)) ∧ w'.cell? ⟨gb248,1,none⟩ = some (.slice A247_1 ((rd_T46 l1_2 x92_2).f1).length c247_1) ∧ w'.cell? ⟨gb248,2,none⟩ = some (.slice A247_2 ((rd_T46 l1_2 x92_2).f2).length c247_2) ∧ w'.cell? (ad249.add (((ji85)).toNat * 6)) = some (.int .i64 ((rd_T27 l0_5 (ji85)).f0)) ∧ w'.cell? ⟨(ad249.add (((ji85)).toNat * 6)).block,(ad249.add (((ji85)).toNat * 6)).off + 1,none⟩ = some (.int .i64 ((rd_T27 l0_5 (ji85)).f1)) ∧ w'.cell? ⟨(ad249.add (((ji85)).toNat * 6)).block,(ad249.add (((ji85)).toNat * 6)).off + 2,none⟩ = some (.int .i64 ((rd_T27 l0_5 (ji85)).f2)) ∧ w'.cell? ⟨(ad249.add (((ji85)).toNat * 6)).block,(ad249.add (((ji85)).toNat * 6)).off + 3,none⟩ = some (.int .i64 ((rd_T27 l0_5 (ji85)).f3)) ∧ w'.cell? ⟨(ad249.add (((ji85)).toNat * 6)).block,(ad249.add (((ji85)).toNat * 6)).off + 4,none⟩ = some (.int .i64 ((rd_T27 l0_5 (ji85)).f4)) ∧ w'.cell? ⟨(ad249.add (((ji85)).toNat * 6)).block,(ad249.add (((ji85)).toNat * 6)).off + 5,none⟩ = some (.slice A249_5 ((rd_T27 l0_5 (ji85)).f5).length c249_5)) (ds := []) #[false,false,false,false,false,false,false,false,false,false,false,false,false,false,false,false] (by kernel_rfl) rfl rfl ⟨(blk_cell BK241.out 0).trans rfl,(blk_cell BK241.out 1).trans rfl,(blk_cell BK241.out 2).trans rfl,(blk_cell BK241.out 3).trans rfl,(blk_cell BK241.out 4).trans rfl,(blk_cell BK241.out 5).trans rfl,(blk_cell BK248.out 0).trans rfl,(blk_cell BK248.out 1).trans rfl,(blk_cell BK248.out 2).trans rfl,((HB.out.cell (World.block_lt_of_cell? w _ hw249_0)).trans hw249_0),((HB.out.cell (World.block_lt_of_cell? w _ hw249_1)).trans hw249_1),((HB.out.cell (World.block_lt_of_cell? w _ hw249_2)).trans hw249_2),((HB.out.cell (World.block_lt_of_cell? w _ hw249_3)).trans hw249_3),((HB.out.cell (World.block_lt_of_cell? w _ hw249_4)).trans hw249_4),((HB.out.cell (World.block_lt_of_cell? w _ hw249_5)).trans hw249_5)⟩ (fun hHeld => ?_);refine with_tabW value_fit.tab20 value_fit.bits20 (fun HT_ HW_ => ?_)
                  generalize w94.drew = w95 at BK241 BK242 BK248 HB HR249_5 hx249_0 hx249_1 hx249_2 hx249_3 hx249_4 hx249_5 hHeld ⊢
                  refine pure_ (i := 0) (N := some 98) (v := ?_) (a' := ?_) #[true,false,false,false,false,false,false,false,false,false,false,false,false,false,false,false] rfl rfl (any_of HT_.out (by kernel_rfl)) (fun _ _ _ h => h) (Or.inl ⟨by rfl,?_⟩) ?_ ?_
                  rotate_left
                  ·intro w'
                   go_simp
                   with_reducible rfl
                  rotate_left
                  ·simp only [Act.put,List.setIfInBounds_toArray,List.set_cons_zero,List.set_cons_succ,i64_w,i32_w]
                   rfl
                  refine pure_ (i := 2) (N := some 100) (v := ?_) (a' := ?_) #[true,false,true,false,false,false,false,false,false,false,false,false,false,false,false,false] rfl rfl (any_of HT_.out (by kernel_rfl)) (fun _ _ _ h => h) (Or.inl ⟨by rfl,?_⟩) ?_ ?_
                  rotate_left
                  ·intro w'
                   go_simp
                   with_reducible rfl
                  rotate_left
                  ·simp only [Act.put,List.setIfInBounds_toArray,List.set_cons_zero,List.set_cons_succ,i64_w,i32_w]
                   rfl
                  refine pure_ (i := 3) (N := some 101) (v := ?_) (a' := ?_) #[true,false,true,true,false,false,false,false,false,false,false,false,false,false,false,false] rfl rfl (any_of HT_.out (by kernel_rfl)) (fun _ _ _ h => h) (Or.inl ⟨by rfl,?_⟩) ?_ ?_
                  rotate_left
                  ·intro w'
                   go_simp
                   with_reducible rfl
                  rotate_left
                  ·simp only [Act.put,List.setIfInBounds_toArray,List.set_cons_zero,List.set_cons_succ,i64_w,i32_w]
                   rfl
                  refine take_ (i := 1) (N := some 99) (v := ?_) (a' := ?_) #[true,true,true,true,false,false,false,false,false,false,false,false,false,false,false,false] rfl rfl (take_ofW HT_.out HW_.out (by kernel_rfl)) (fun _ _ _ h => h) (Or.inl ⟨by rfl,?_⟩) hHeld ?_ ?_
                  rotate_left
                  ·rintro w' ⟨s0,s1,s2,s3,s4,s5,s6,s7,s8,s9,s10,s11,s12,s13,s14⟩
                   go_simp
                   with_reducible rfl
                  rotate_left
                  ·simp only [Act.put,List.setIfInBounds_toArray,List.set_cons_zero,List.set_cons_succ,i64_w,i32_w]
                   rfl
                  refine take_ (i := 4) (N := some 102) (v := ?_) (a' := ?_) #[true,true,true,true,true,false,false,false,false,false,false,false,false,false,false,false] rfl rfl (take_ofW HT_.out HW_.out (by kernel_rfl)) (fun _ _ _ h => h) (Or.inl ⟨by rfl,?_⟩) hHeld ?_ ?_
                  rotate_left
                  ·rintro w' ⟨s0,s1,s2,s3,s4,s5,s6,s7,s8,s9,s10,s11,s12,s13,s14⟩
                   go_simp
                   with_reducible rfl
                  rotate_left
                  ·simp only [Act.put,List.setIfInBounds_toArray,List.set_cons_zero,List.set_cons_succ,i64_w,i32_w]
                   rfl
                  refine pure_ (i := 5) (N := some 103) (v := ?_) (a' := ?_) #[true,true,true,true,true,true,false,false,false,false,false,false,false,false,false,false] rfl rfl (any_of HT_.out (by kernel_rfl)) (fun _ _ _ h => h) (Or.inl ⟨by rfl,?_⟩) ?_ ?_
                  rotate_left
                  ·intro w'
                   go_simp
                   with_reducible rfl
                  rotate_left
                  ·simp only [Act.put,List.setIfInBounds_toArray,List.set_cons_zero,List.set_cons_succ,i64_w,i32_w]
                   rfl
                  refine pure_ (i := 6) (N := some 104) (v := ?_) (a' := ?_) #[true,true,true,true,true,true,true,false,false,false,false,false,false,false,false,false] rfl rfl (any_of HT_.out (by kernel_rfl)) (fun _ _ _ h => h) (Or.inl ⟨by rfl,?_⟩) ?_ ?_
                  rotate_left
                  ·intro w'
                   go_simp
                   with_reducible rfl
                  rotate_left
                  ·simp only [Act.put,List.setIfInBounds_toArray,List.set_cons_zero,List.set_cons_succ,i64_w,i32_w]
                   rfl
                  refine pure_ (i := 7) (N := some 105) (v := ?_) (a' := ?_) #[true,true,true,true,true,true,true,true,false,false,false,false,false,false,false,false] rfl rfl (any_of HT_.out (by kernel_rfl)) (fun _ _ _ h => h) (Or.inl ⟨by rfl,?_⟩) ?_ ?_
                  rotate_left
                  ·intro w'
                   go_simp
                   with_reducible rfl
                  rotate_left
                  ·simp only [Act.put,List.setIfInBounds_toArray,List.set_cons_zero,List.set_cons_succ,i64_w,i32_w]
                   rfl
                  refine take_ (i := 8) (N := some 106) (v := ?_) (a' := ?_) #[true,true,true,true,true,true,true,true,true,false,false,false,false,false,false,false] rfl rfl (take_ofW HT_.out HW_.out (by kernel_rfl)) (fun _ _ _ h => h) (Or.inl ⟨by rfl,?_⟩) hHeld ?_ ?_
                  rotate_left
                  ·rintro w' ⟨s0,s1,s2,s3,s4,s5,s6,s7,s8,s9,s10,s11,s12,s13,s14⟩
                   go_simp
                   with_reducible rfl
                  rotate_left
                  ·simp only [Act.put,List.setIfInBounds_toArray,List.set_cons_zero,List.set_cons_succ,i64_w,i32_w]
                   rfl
                  refine take_ (i := 9) (N := some 107) (v := ?_) (a' := ?_) #[true,true,true,true,true,true,true,true,true,true,false,false,false,false,false,false] rfl rfl (take_ofW HT_.out HW_.out (by kernel_rfl)) (fun _ _ _ h => h) (Or.inl ⟨by rfl,?_⟩) hHeld ?_ ?_
                  rotate_left
                  ·rintro w' ⟨s0,s1,s2,s3,s4,s5,s6,s7,s8,s9,s10,s11,s12,s13,s14⟩
                   go_simp
                   with_reducible rfl
                  rotate_left
                  ·simp only [Act.put,List.setIfInBounds_toArray,List.set_cons_zero,List.set_cons_succ,i64_w,i32_w]
                   rfl
                  refine one_ (i := 10) (N := some 108) #[true,true,true,true,true,true,true,true,true,true,true,false,false,false,false,false] rfl rfl (one_of HT_.out (by kernel_rfl)) (by decide) (fun K hK => ?_)
                  refine goes_ Try.func66 (by kernel_rfl) rfl #[.agg #[.int .i64 ((rd_T27 l0_5 (ji85)).f0),.int .i64 ((rd_T27 l0_5 (ji85)).f1),.int .i64 ((rd_T27 l0_5 (ji85)).f2),.int .i64 ((rd_T27 l0_5 (ji85)).f3),.int .i64 ((rd_T27 l0_5 (ji85)).f4),.slice A249_5 ((rd_T27 l0_5 (ji85)).f5).length c249_5],.agg #[.int .u64 ((rd_T46 l1_2 x92_2).f0),.slice A247_1 ((rd_T46 l1_2 x92_2).f1).length c247_1,.slice A247_2 ((rd_T46 l1_2 x92_2).f2).length c247_2]] (by rfl) rfl rfl (by (try simp only [List.map_toArray,List.map_cons,List.map_nil]);first | done | (simp only [hji85];rfl) | rfl | (simp only [List.length_drop,List.length_take];rfl)) ?_
                  with_reducible refine (ih k2 (by have := HJ63.out;have := HK2.out;omega) ((rd_T27 l0_5 (ji85)).f0) ((rd_T27 l0_5 (ji85)).f1) ((rd_T27 l0_5 (ji85)).f2) ((rd_T27 l0_5 (ji85)).f3) ((rd_T27 l0_5 (ji85)).f4) _ _ ((rd_T27 l0_5 (ji85)).f5) ((rd_T46 l1_2 x92_2).f0) _ _ ((rd_T46 l1_2 x92_2).f1) _ _ ((rd_T46 l1_2 x92_2).f2) t250 t251 _ ?side1 ?side2 ?side3 ?side4 ?side5 ?side6 A88.out).mono ?_
                  (case side1 => repeat (first | exact (Kd.C_below HR249_5.out HB.out) | (with_reducible refine Kd.C_alloc ?_ _) | (with_reducible refine Kd.C_drewN ?_ _) | (with_reducible refine Kd.C_drew ?_)))
                  (case side2 => exact HC249_5.out)
                  (case side3 => repeat (first | exact (Kd.C_below HR247_1.out HB.out) | (with_reducible refine Kd.C_alloc ?_ _) | (with_reducible refine Kd.C_drewN ?_ _) | (with_reducible refine Kd.C_drew ?_)))
                  (case side4 => exact HC247_1.out)
                  (case side5 => repeat (first | exact (Kd.C_below HR247_2.out HB.out) | (with_reducible refine Kd.C_alloc ?_ _) | (with_reducible refine Kd.C_drewN ?_ _) | (with_reducible refine Kd.C_drew ?_)))
                  (case side6 => exact HC247_2.out)
                  rintro e w96 ⟨rfl,hb⟩
                  refine ⟨_,rfl,?_⟩
                  have n0_ := Aside0.mk (blk_below (g := gb241) (o := .cells #[.int .i64 a0_0,.int .i64 a0_1,.int .i64 a0_2,.int .i64 a0_3,.int .i64 a0_4,.slice (some ad249) l0_5.length c0_5] 27 (0,0)) (by (with_reducible repeat (first | refine blk_drewN ?_ _ | refine blk_drew ?_ | refine blk_alloc ?_ _));exact BK241.out) hb)
                  have n1_ := Aside0.mk (blk_below (g := gb242) (o := .cells #[.int .u64 a1_0,.slice A1_1 l1_1.length c1_1,.slice (some ad247) l1_2.length c1_2] 46 (0,0)) (by (with_reducible repeat (first | refine blk_drewN ?_ _ | refine blk_drew ?_ | refine blk_alloc ?_ _));exact BK242.out) hb)
                  have n2_ := Aside0.mk (blk_below (g := gb248) (o := .cells #[.int .u64 ((rd_T46 l1_2 x92_2).f0),.slice A247_1 ((rd_T46 l1_2 x92_2).f1).length c247_1,.slice A247_2 ((rd_T46 l1_2 x92_2).f2).length c247_2] 46 (0,0)) (by (with_reducible repeat (first | refine blk_drewN ?_ _ | refine blk_drew ?_ | refine blk_alloc ?_ _));exact BK248.out) hb)
                  have n3_ := Aside0.mk (below_step (by repeat (first | (with_reducible first | exact HB.out | apply below_alloc | apply pw_below_drewN | apply below_drew1 | refine below_set ?_ GE241.out | refine below_set ?_ GE242.out | refine below_set ?_ GE248.out) | exact HB.out)) hb)
                  clear BK241
                  clear BK242
                  clear BK248
                  clear HB
                  have BK241 := n0_
                  have BK242 := n1_
                  have BK248 := n2_
                  have HB := n3_
                  clear n0_ n1_ n2_ n3_
                  (try clear hb)
                  (try clear hb2)
                  (try clear hk)
                  (try clear hi)
                  refine hK.out _ _ ⟨(blk_cell BK241.out 0).trans rfl,(blk_cell BK241.out 1).trans rfl,(blk_cell BK241.out 2).trans rfl,(blk_cell BK241.out 3).trans rfl,(blk_cell BK241.out 4).trans rfl,(blk_cell BK241.out 5).trans rfl,(blk_cell BK248.out 0).trans rfl,(blk_cell BK248.out 1).trans rfl,(blk_cell BK248.out 2).trans rfl,((HB.out.cell (World.block_lt_of_cell? w _ hw249_0)).trans hw249_0),((HB.out.cell (World.block_lt_of_cell? w _ hw249_1)).trans hw249_1),((HB.out.cell (World.block_lt_of_cell? w _ hw249_2)).trans hw249_2),((HB.out.cell (World.block_lt_of_cell? w _ hw249_3)).trans hw249_3),((HB.out.cell (World.block_lt_of_cell? w _ hw249_4)).trans hw249_4),((HB.out.cell (World.block_lt_of_cell? w _ hw249_5)).trans hw249_5)⟩ (fun hHeld => ?_)
                  clear hK K
                  refine norm_ (a' := ?_) ?_ ?_
                  rotate_left
                  ·show Act.put _ (some 108) _ = _
                   simp only [Act.put,List.setIfInBounds_toArray,List.set_cons_zero,List.set_cons_succ,i64_w,i32_w]
                   rfl
                  refine pure_ (i := 11) (N := some 97) (v := ?_) (a' := ?_) #[true,true,true,true,true,true,true,true,true,true,true,true,false,false,false,false] rfl rfl (any_of HT_.out (by kernel_rfl)) (fun _ _ _ h => h) (Or.inl ⟨by rfl,?_⟩) ?_ ?_
                  rotate_left
                  ·intro w'
                   go_simp
                   with_reducible rfl
                  rotate_left
                  ·simp only [Act.put,List.setIfInBounds_toArray,List.set_cons_zero,List.set_cons_succ,i64_w,i32_w]
                   rfl
                  refine pure_ (i := 12) (N := some 109) (v := ?_) (a' := ?_) #[true,true,true,true,true,true,true,true,true,true,true,true,true,false,false,false] rfl rfl (any_of HT_.out (by kernel_rfl)) (fun _ _ _ h => h) (Or.inl ⟨by rfl,?_⟩) ?_ ?_
                  rotate_left
                  ·intro w'
                   go_simp
                   with_reducible rfl
                  rotate_left
                  ·simp only [Act.put,List.setIfInBounds_toArray,List.set_cons_zero,List.set_cons_succ,i64_w,i32_w]
                   rfl
                  refine pure_ (i := 13) (N := some 110) (v := ?_) (a' := ?_) #[true,true,true,true,true,true,true,true,true,true,true,true,true,true,false,false] rfl rfl (any_of HT_.out (by kernel_rfl)) (fun _ _ _ h => h) (Or.inl ⟨by rfl,?_⟩) ?_ ?_
                  rotate_left
                  ·intro w'
                   go_simp
                   with_reducible rfl
                  rotate_left
                  ·simp only [Act.put,List.setIfInBounds_toArray,List.set_cons_zero,List.set_cons_succ,i64_w,i32_w]
                   rfl
                  refine pure_ (i := 14) (N := some 9) (v := ?_) (a' := ?_) #[true,true,true,true,true,true,true,true,true,true,true,true,true,true,true,false] rfl rfl (any_of HT_.out (by kernel_rfl)) (fun _ _ _ h => h) (Or.inl ⟨by rfl,?_⟩) ?_ ?_
                  rotate_left
                  ·intro w'
                   go_simp
                   with_reducible rfl
                  rotate_left
                  ·simp only [Act.put,List.setIfInBounds_toArray,List.set_cons_zero,List.set_cons_succ,i64_w,i32_w]
                   rfl
                  refine pure_ (i := 15) (N := some 10) (v := ?_) (a' := ?_) #[true,true,true,true,true,true,true,true,true,true,true,true,true,true,true,true] rfl rfl (any_of HT_.out (by kernel_rfl)) (fun _ _ _ h => h) (Or.inl ⟨by rfl,?_⟩) ?_ ?_
                  rotate_left
                  ·intro w'
                   go_simp
                   with_reducible rfl
                  rotate_left
                  ·simp only [Act.put,List.setIfInBounds_toArray,List.set_cons_zero,List.set_cons_succ,i64_w,i32_w]
                   rfl
                  refine done_ (done_of HT_.out (by kernel_rfl)) ?_
                  try go_wp2
                  go_roundg k2
                  case measure => have := HJ63.out;have := HK2.out;omega
                  case rel => exact ⟨(wrap64 (x6_2 + t250)),(wrap64 (x92_2 + 1)),(by first | rfl | (simp;done) | (simp [*];done)),(by first | rfl | (simp;done) | (simp [*];done)),H',⟨by have := HJ63.out;have := HK2.out;omega⟩,⟨by (with_reducible repeat (first | refine blk_drewN ?_ _ | refine blk_drew ?_ | refine blk_alloc ?_ _));exact BK241.out⟩,⟨by (with_reducible repeat (first | refine blk_drewN ?_ _ | refine blk_drew ?_ | refine blk_alloc ?_ _));exact BK242.out⟩,⟨by repeat (first | (with_reducible first | exact HB.out | apply below_alloc | apply pw_below_drewN | apply below_drew1 | refine below_set ?_ GE241.out | refine below_set ?_ GE242.out | refine below_set ?_ GE248.out) | exact HB.out)⟩⟩
                 ·rw [if_neg c89] at H
                  have c89b0 : (t251 == 0) = false := beq_eq_false_iff_ne.mpr c89
                  have c89b1 : (t251 != 0) = true := bne_iff_ne.mpr c89
                  simp only [Option.some.injEq,Prod.mk.injEq] at H
                  obtain ⟨rfl,rfl⟩ := H
                  have p247 : 0 ≤ (x92_2 : Int) := of_decide_eq_true (by first | (with_reducible assumption) | assumption)
                  have q247 : x92_2 < (l1_2.length : Int) := of_decide_eq_true (by first | (with_reducible assumption) | assumption)
                  obtain ⟨ad247,A247_1,c247_1,A247_2,c247_2,e247,hx247_0,hx247_1,hx247_2,hl247_1,hi247_1,hl247_2,hi247_2⟩ := at_T46 HR1_2.out x92_2 p247 q247
                  cases e247
                  replace hx247_0 := (HB.out.cell (World.block_lt_of_cell? w _ hx247_0)).trans hx247_0
                  replace hx247_1 := (HB.out.cell (World.block_lt_of_cell? w _ hx247_1)).trans hx247_1
                  replace hx247_2 := (HB.out.cell (World.block_lt_of_cell? w _ hx247_2)).trans hx247_2
                  have HR247_1 := Aside0.mk hi247_1
                  have HC247_1 := Aside0.mk hl247_1
                  clear hi247_1 hl247_1
                  have HR247_2 := Aside0.mk hi247_2
                  have HC247_2 := Aside0.mk hl247_2
                  clear hi247_2 hl247_2
                  replace p247 := eq_true p247
                  replace q247 := eq_true q247
                  try go_wp2_with (first | ((with_reducible refine gate_dst (N := 8) rfl ?_);(try (refine gate_guard (by rfl) ?_;dsimp only));refine box_event ?hg (N := 8) ?hd (cs := #[.int .u64 0,.slice none 0 0,.slice none 0 0]) (t := 46) ?hr ?_;(case hd => rfl);(case hg => rfl);(case hr => first | (go_simp;done) | (go_simp;rfl));intro gb248 hg w97 hbox hb;have n0_ := Aside0.mk (blk_below (g := gb241) (o := .cells #[.int .i64 a0_0,.int .i64 a0_1,.int .i64 a0_2,.int .i64 a0_3,.int .i64 a0_4,.slice A0_5 l0_5.length c0_5] 27 (0,0)) (by (with_reducible repeat (first | refine blk_drewN ?_ _ | refine blk_drew ?_ | refine blk_alloc ?_ _));exact BK241.out) hb);have n1_ := Aside0.mk (blk_below (g := gb242) (o := .cells #[.int .u64 a1_0,.slice A1_1 l1_1.length c1_1,.slice (some ad247) l1_2.length c1_2] 46 (0,0)) (by (with_reducible repeat (first | refine blk_drewN ?_ _ | refine blk_drew ?_ | refine blk_alloc ?_ _));exact BK242.out) hb);have n2_ := Aside0.mk (below_step (by repeat (first | (with_reducible first | exact HB.out | apply below_alloc | apply pw_below_drewN | apply below_drew1 | refine below_set ?_ GE241.out | refine below_set ?_ GE242.out) | exact HB.out)) hb);have n3_ := Aside0.mk (hbox);have n4_ := Aside0.mk ((by rw [hg];exact (below_size (by repeat (first | (with_reducible first | exact HB.out | apply below_alloc | apply pw_below_drewN | apply below_drew1 | refine below_set ?_ GE241.out | refine below_set ?_ GE242.out) | exact HB.out))) : w.heap.size ≤ gb248));have n5_ := Aside0.mk ((by rw [hg];exact (below_size (by repeat (first | (with_reducible first | exact HB.out | apply below_alloc | apply pw_below_drewN | apply below_drew1 | refine below_set ?_ GE241.out | refine below_set ?_ GE242.out) | exact HB.out))) : w.heap.size ≤ gb248));have n6_ := Aside0.mk ((by rw [hg];exact Nat.ne_of_lt (blk_lt (g := gb241) (o := .cells #[.int .i64 a0_0,.int .i64 a0_1,.int .i64 a0_2,.int .i64 a0_3,.int .i64 a0_4,.slice A0_5 l0_5.length c0_5] 27 (0,0)) (by (with_reducible repeat (first | refine blk_drewN ?_ _ | refine blk_drew ?_ | refine blk_alloc ?_ _));exact BK241.out)) : gb241 ≠ gb248));have n7_ := Aside0.mk ((by rw [hg];exact Nat.ne_of_gt (blk_lt (g := gb241) (o := .cells #[.int .i64 a0_0,.int .i64 a0_1,.int .i64 a0_2,.int .i64 a0_3,.int .i64 a0_4,.slice A0_5 l0_5.length c0_5] 27 (0,0)) (by (with_reducible repeat (first | refine blk_drewN ?_ _ | refine blk_drew ?_ | refine blk_alloc ?_ _));exact BK241.out)) : gb248 ≠ gb241));have n8_ := Aside0.mk ((by rw [hg];exact Nat.ne_of_lt (blk_lt (g := gb242) (o := .cells #[.int .u64 a1_0,.slice A1_1 l1_1.length c1_1,.slice (some ad247) l1_2.length c1_2] 46 (0,0)) (by (with_reducible repeat (first | refine blk_drewN ?_ _ | refine blk_drew ?_ | refine blk_alloc ?_ _));exact BK242.out)) : gb242 ≠ gb248));have n9_ := Aside0.mk ((by rw [hg];exact Nat.ne_of_gt (blk_lt (g := gb242) (o := .cells #[.int .u64 a1_0,.slice A1_1 l1_1.length c1_1,.slice (some ad247) l1_2.length c1_2] 46 (0,0)) (by (with_reducible repeat (first | refine blk_drewN ?_ _ | refine blk_drew ?_ | refine blk_alloc ?_ _));exact BK242.out)) : gb248 ≠ gb242));clear BK241;clear BK242;clear HB;have BK241 := n0_;have BK242 := n1_;have HB := n2_;have BK248 := n3_;have GW248 := n4_;have GE248 := n5_;have NB241_248 := n6_;have NB248_241 := n7_;have NB242_248 := n8_;have NB248_242 := n9_;clear n0_ n1_ n2_ n3_ n4_ n5_ n6_ n7_ n8_ n9_;clear hb hbox hg;have hnb98 := NB248_241.out;have hnc98 := NB241_248.out;have hnb99 := NB248_242.out;have hnc99 := NB242_248.out;have hcz100_0 : w97.cell? ⟨gb248,0,none⟩ = some (.int .u64 0) := (blk_cell BK248.out 0).trans rfl;have hcz100_1 : w97.cell? ⟨gb248,1,none⟩ = some (.slice none 0 0) := (blk_cell BK248.out 1).trans rfl;have hcz100_2 : w97.cell? ⟨gb248,2,none⟩ = some (.slice none 0 0) := (blk_cell BK248.out 2).trans rfl;have hfz100_0 := blk_frozen BK248.out 0;have hfz100_1 := blk_frozen BK248.out 1;have hfz100_2 := blk_frozen BK248.out 2))
                  have n0_ : Aside0 ((((w97.setCell ⟨gb248,0,none⟩ (.int .u64 ((rd_T46 l1_2 x92_2).f0))).setCell ⟨gb248,1,none⟩ (.slice A247_1 ((rd_T46 l1_2 x92_2).f1).length c247_1)).setCell ⟨gb248,2,none⟩ (.slice A247_2 ((rd_T46 l1_2 x92_2).f2).length c247_2)).heap[gb241]? = some (.cells #[.int .i64 a0_0,.int .i64 a0_1,.int .i64 a0_2,.int .i64 a0_3,.int .i64 a0_4,.slice A0_5 l0_5.length c0_5] 27 (0,0))) := ⟨by (with_reducible repeat (first | refine blk_drewN ?_ _ | refine blk_drew ?_ | refine blk_alloc ?_ _));refine blk_far ?_ NB241_248.out _;(with_reducible repeat (first | refine blk_drewN ?_ _ | refine blk_drew ?_ | refine blk_alloc ?_ _));refine blk_far ?_ NB241_248.out _;(with_reducible repeat (first | refine blk_drewN ?_ _ | refine blk_drew ?_ | refine blk_alloc ?_ _));refine blk_far ?_ NB241_248.out _;(with_reducible repeat (first | refine blk_drewN ?_ _ | refine blk_drew ?_ | refine blk_alloc ?_ _));exact BK241.out⟩
                  have n1_ : Aside0 ((((w97.setCell ⟨gb248,0,none⟩ (.int .u64 ((rd_T46 l1_2 x92_2).f0))).setCell ⟨gb248,1,none⟩ (.slice A247_1 ((rd_T46 l1_2 x92_2).f1).length c247_1)).setCell ⟨gb248,2,none⟩ (.slice A247_2 ((rd_T46 l1_2 x92_2).f2).length c247_2)).heap[gb242]? = some (.cells #[.int .u64 a1_0,.slice A1_1 l1_1.length c1_1,.slice (some ad247) l1_2.length c1_2] 46 (0,0))) := ⟨by (with_reducible repeat (first | refine blk_drewN ?_ _ | refine blk_drew ?_ | refine blk_alloc ?_ _));refine blk_far ?_ NB242_248.out _;(with_reducible repeat (first | refine blk_drewN ?_ _ | refine blk_drew ?_ | refine blk_alloc ?_ _));refine blk_far ?_ NB242_248.out _;(with_reducible repeat (first | refine blk_drewN ?_ _ | refine blk_drew ?_ | refine blk_alloc ?_ _));refine blk_far ?_ NB242_248.out _;(with_reducible repeat (first | refine blk_drewN ?_ _ | refine blk_drew ?_ | refine blk_alloc ?_ _));exact BK242.out⟩
                  have n2_ : Aside0 ((((w97.setCell ⟨gb248,0,none⟩ (.int .u64 ((rd_T46 l1_2 x92_2).f0))).setCell ⟨gb248,1,none⟩ (.slice A247_1 ((rd_T46 l1_2 x92_2).f1).length c247_1)).setCell ⟨gb248,2,none⟩ (.slice A247_2 ((rd_T46 l1_2 x92_2).f2).length c247_2)).heap[gb248]? = some (.cells #[.int .u64 ((rd_T46 l1_2 x92_2).f0),.slice A247_1 ((rd_T46 l1_2 x92_2).f1).length c247_1,.slice A247_2 ((rd_T46 l1_2 x92_2).f2).length c247_2] 46 (0,0))) := ⟨by (with_reducible repeat (first | refine blk_drewN ?_ _ | refine blk_drew ?_ | refine blk_alloc ?_ _));refine blk_put (cs := #[.int .u64 ((rd_T46 l1_2 x92_2).f0),.slice A247_1 ((rd_T46 l1_2 x92_2).f1).length c247_1,.slice none 0 0]) ?_ 2 _ rfl;(with_reducible repeat (first | refine blk_drewN ?_ _ | refine blk_drew ?_ | refine blk_alloc ?_ _));refine blk_put (cs := #[.int .u64 ((rd_T46 l1_2 x92_2).f0),.slice none 0 0,.slice none 0 0]) ?_ 1 _ rfl;(with_reducible repeat (first | refine blk_drewN ?_ _ | refine blk_drew ?_ | refine blk_alloc ?_ _));refine blk_put (cs := #[.int .u64 0,.slice none 0 0,.slice none 0 0]) ?_ 0 _ rfl;(with_reducible repeat (first | refine blk_drewN ?_ _ | refine blk_drew ?_ | refine blk_alloc ?_ _));exact BK248.out⟩
                  have n3_ : Aside0 (Below w.heap.size w (((w97.setCell ⟨gb248,0,none⟩ (.int .u64 ((rd_T46 l1_2 x92_2).f0))).setCell ⟨gb248,1,none⟩ (.slice A247_1 ((rd_T46 l1_2 x92_2).f1).length c247_1)).setCell ⟨gb248,2,none⟩ (.slice A247_2 ((rd_T46 l1_2 x92_2).f2).length c247_2))) := ⟨by repeat (first | (with_reducible first | exact HB.out | apply below_alloc | apply pw_below_drewN | apply below_drew1 | refine below_set ?_ GE241.out | refine below_set ?_ GE242.out | refine below_set ?_ GE248.out) | exact HB.out)⟩
                  (try clear BK241)
                  (try clear BK242)
                  (try clear BK248)
                  (try clear HB)
                  generalize (((w97.setCell ⟨gb248,0,none⟩ (.int .u64 ((rd_T46 l1_2 x92_2).f0))).setCell ⟨gb248,1,none⟩ (.slice A247_1 ((rd_T46 l1_2 x92_2).f1).length c247_1)).setCell ⟨gb248,2,none⟩ (.slice A247_2 ((rd_T46 l1_2 x92_2).f2).length c247_2)) = w101 at n0_ n1_ n2_ n3_ ⊢
                  have BK241 := n0_
                  have BK242 := n1_
                  have BK248 := n2_
                  have HB := n3_
                  clear n0_ n1_ n2_ n3_
                  have n0_ := Aside0.mk (blk_drew BK241.out)
                  have n1_ := Aside0.mk (blk_drew BK242.out)
                  have n2_ := Aside0.mk (blk_drew BK248.out)
                  have n3_ := Aside0.mk (below_drew1 HB.out)
                  clear BK241
                  clear BK242
                  clear BK248
                  clear HB
                  have BK241 := n0_
                  have BK242 := n1_
                  have BK248 := n2_
                  have HB := n3_
                  clear n0_ n1_ n2_ n3_
                  have p249 : 0 ≤ ((ji85) : Int) := of_decide_eq_true (by first | (with_reducible assumption) | assumption)
                  have q249 : (ji85) < (l0_5.length : Int) := of_decide_eq_true (by first | (with_reducible assumption) | assumption)
                  obtain ⟨ad249,A249_5,c249_5,e249,hx249_0,hx249_1,hx249_2,hx249_3,hx249_4,hx249_5,hl249_5,hi249_5⟩ := at_T27 HR0_5.out (ji85) p249 q249
                  have hw249_5 := hx249_5
                  have hw249_4 := hx249_4
                  have hw249_3 := hx249_3
                  have hw249_2 := hx249_2
                  have hw249_1 := hx249_1
                  have hw249_0 := hx249_0
                  cases e249
                  replace hx249_0 := (HB.out.cell (World.block_lt_of_cell? w _ hx249_0)).trans hx249_0
                  replace hx249_1 := (HB.out.cell (World.block_lt_of_cell? w _ hx249_1)).trans hx249_1
                  replace hx249_2 := (HB.out.cell (World.block_lt_of_cell? w _ hx249_2)).trans hx249_2
                  replace hx249_3 := (HB.out.cell (World.block_lt_of_cell? w _ hx249_3)).trans hx249_3
                  replace hx249_4 := (HB.out.cell (World.block_lt_of_cell? w _ hx249_4)).trans hx249_4
                  replace hx249_5 := (HB.out.cell (World.block_lt_of_cell? w _ hx249_5)).trans hx249_5
                  have HR249_5 := Aside0.mk hi249_5
                  have HC249_5 := Aside0.mk hl249_5
                  clear hi249_5 hl249_5
                  replace p249 := eq_true p249
                  replace q249 := eq_true q249
                  refine start_ (n := 16) (S := fun w' => w'.cell? ⟨gb241,0,none⟩ = some (.int .i64 a0_0) ∧ w'.cell? ⟨gb241,1,none⟩ = some (.int .i64 a0_1) ∧ w'.cell? ⟨gb241,2,none⟩ = some (.int .i64 a0_2) ∧ w'.cell? ⟨gb241,3,none⟩ = some (.int .i64 a0_3) ∧ w'.cell? ⟨gb241,4,none⟩ = some (.int .i64 a0_4) ∧ w'.cell? ⟨gb241,5,none⟩ = some (.slice (some ad249) l0_5.length c0_5) ∧ w'.cell? ⟨gb248,0,none⟩ = some (.int .u64 ((rd_T46 l1_2 x92_2).f0)) ∧ w'.cell? ⟨gb248,1,none⟩ = some (.slice A247_1 ((rd_T46 l1_2 x92_2).f1).length c247_1) ∧ w'.cell? ⟨gb248,2,none⟩ = some (.slice A247_2 ((rd_T46 l1_2 x92_2).f2).length c247_2) ∧ w'.cell? (ad249.add (((ji85)).toNat * 6)) = some (.int .i64 ((rd_T27 l0_5 (ji85)).f0)) ∧ w'.cell? ⟨(ad249.add (((ji85)).toNat * 6)).block,(ad249.add (((ji85)).toNat * 6)).off + 1,none⟩ = some (.int .i64 ((rd_T27 l0_5 (ji85)).f1)) ∧ w'.cell? ⟨(ad249.add (((ji85)).toNat * 6)).block,(ad249.add (((ji85)).toNat * 6)).off + 2,none⟩ = some (.int .i64 ((rd_T27 l0_5 (ji85)).f2)) ∧ w'.cell? ⟨(ad249.add (((ji85)).toNat * 6)).block,(ad249.add (((ji85)).toNat * 6)).off + 3,none⟩ = some (.int .i64 ((rd_T27 l0_5 (ji85)).f3)) ∧ w'.cell? ⟨(ad249.add (((ji85)).toNat * 6)).block,(ad249.add (((ji85)).toNat * 6)).off + 4,none⟩ = some (.int .i64 ((rd_T27 l0_5 (ji85)).f4)) ∧ w'.cell? ⟨(ad249.add (((ji85)).toNat * 6)).block,(ad249.add (((ji85)).toNat * 6)).off + 5,none⟩ = some (.slice A249_5 ((rd_T27 l0_5 (ji85)).f5).length c249_5)) (ds := []) #[false,false,false,false,false,false,false,false,false,false,false,false,false,false,false,false] (by kernel_rfl) rfl rfl ⟨(blk_cell BK241.out 0).trans rfl,(blk_cell BK241.out 1).trans rfl,(blk_cell BK241.out 2).trans rfl,(blk_cell BK241.out 3).trans rfl,(blk_cell BK241.out 4).trans rfl,(blk_cell BK241.out 5).trans rfl,(blk_cell BK248.out 0).trans rfl,(blk_cell BK248.out 1).trans rfl,(blk_cell BK248.out 2).trans rfl,((HB.out.cell (World.block_lt_of_cell? w _ hw249_0)).trans hw249_0),((HB.out.cell (World.block_lt_of_cell? w _ hw249_1)).trans hw249_1),((HB.out.cell (World.block_lt_of_cell? w _ hw249_2)).trans hw249_2),((HB.out.cell (World.block_lt_of_cell? w _ hw249_3)).trans hw249_3),((HB.out.cell (World.block_lt_of_cell? w _ hw249_4)).trans hw249_4),((HB.out.cell (World.block_lt_of_cell? w _ hw249_5)).trans hw249_5)⟩ (fun hHeld => ?_);refine with_tabW value_fit.tab20 value_fit.bits20 (fun HT_ HW_ => ?_)
                  generalize w101.drew = w102 at BK241 BK242 BK248 HB HR249_5 hx249_0 hx249_1 hx249_2 hx249_3 hx249_4 hx249_5 hHeld ⊢
                  refine pure_ (i := 0) (N := some 98) (v := ?_) (a' := ?_) #[true,false,false,false,false,false,false,false,false,false,false,false,false,false,false,false] rfl rfl (any_of HT_.out (by kernel_rfl)) (fun _ _ _ h => h) (Or.inl ⟨by rfl,?_⟩) ?_ ?_
                  rotate_left
                  ·intro w'
                   go_simp
                   with_reducible rfl
                  rotate_left
                  ·simp only [Act.put,List.setIfInBounds_toArray,List.set_cons_zero,List.set_cons_succ,i64_w,i32_w]
                   rfl
                  refine pure_ (i := 2) (N := some 100) (v := ?_) (a' := ?_) #[true,false,true,false,false,false,false,false,false,false,false,false,false,false,false,false] rfl rfl (any_of HT_.out (by kernel_rfl)) (fun _ _ _ h => h) (Or.inl ⟨by rfl,?_⟩) ?_ ?_
                  rotate_left
                  ·intro w'
                   go_simp
                   with_reducible rfl
                  rotate_left
                  ·simp only [Act.put,List.setIfInBounds_toArray,List.set_cons_zero,List.set_cons_succ,i64_w,i32_w]
                   rfl
                  refine pure_ (i := 3) (N := some 101) (v := ?_) (a' := ?_) #[true,false,true,true,false,false,false,false,false,false,false,false,false,false,false,false] rfl rfl (any_of HT_.out (by kernel_rfl)) (fun _ _ _ h => h) (Or.inl ⟨by rfl,?_⟩) ?_ ?_
                  rotate_left
                  ·intro w'
                   go_simp
                   with_reducible rfl
                  rotate_left
                  ·simp only [Act.put,List.setIfInBounds_toArray,List.set_cons_zero,List.set_cons_succ,i64_w,i32_w]
                   rfl
                  refine take_ (i := 1) (N := some 99) (v := ?_) (a' := ?_) #[true,true,true,true,false,false,false,false,false,false,false,false,false,false,false,false] rfl rfl (take_ofW HT_.out HW_.out (by kernel_rfl)) (fun _ _ _ h => h) (Or.inl ⟨by rfl,?_⟩) hHeld ?_ ?_
                  rotate_left
                  ·rintro w' ⟨s0,s1,s2,s3,s4,s5,s6,s7,s8,s9,s10,s11,s12,s13,s14⟩
                   go_simp
                   with_reducible rfl
                  rotate_left
                  ·simp only [Act.put,List.setIfInBounds_toArray,List.set_cons_zero,List.set_cons_succ,i64_w,i32_w]
                   rfl
                  refine take_ (i := 4) (N := some 102) (v := ?_) (a' := ?_) #[true,true,true,true,true,false,false,false,false,false,false,false,false,false,false,false] rfl rfl (take_ofW HT_.out HW_.out (by kernel_rfl)) (fun _ _ _ h => h) (Or.inl ⟨by rfl,?_⟩) hHeld ?_ ?_
                  rotate_left
                  ·rintro w' ⟨s0,s1,s2,s3,s4,s5,s6,s7,s8,s9,s10,s11,s12,s13,s14⟩
                   go_simp
                   with_reducible rfl
                  rotate_left
                  ·simp only [Act.put,List.setIfInBounds_toArray,List.set_cons_zero,List.set_cons_succ,i64_w,i32_w]
                   rfl
                  refine pure_ (i := 5) (N := some 103) (v := ?_) (a' := ?_) #[true,true,true,true,true,true,false,false,false,false,false,false,false,false,false,false] rfl rfl (any_of HT_.out (by kernel_rfl)) (fun _ _ _ h => h) (Or.inl ⟨by rfl,?_⟩) ?_ ?_
                  rotate_left
                  ·intro w'
                   go_simp
                   with_reducible rfl
                  rotate_left
                  ·simp only [Act.put,List.setIfInBounds_toArray,List.set_cons_zero,List.set_cons_succ,i64_w,i32_w]
                   rfl
                  refine pure_ (i := 6) (N := some 104) (v := ?_) (a' := ?_) #[true,true,true,true,true,true,true,false,false,false,false,false,false,false,false,false] rfl rfl (any_of HT_.out (by kernel_rfl)) (fun _ _ _ h => h) (Or.inl ⟨by rfl,?_⟩) ?_ ?_
                  rotate_left
                  ·intro w'
                   go_simp
                   with_reducible rfl
                  rotate_left
                  ·simp only [Act.put,List.setIfInBounds_toArray,List.set_cons_zero,List.set_cons_succ,i64_w,i32_w]
                   rfl
                  refine pure_ (i := 7) (N := some 105) (v := ?_) (a' := ?_) #[true,true,true,true,true,true,true,true,false,false,false,false,false,false,false,false] rfl rfl (any_of HT_.out (by kernel_rfl)) (fun _ _ _ h => h) (Or.inl ⟨by rfl,?_⟩) ?_ ?_
                  rotate_left
                  ·intro w'
                   go_simp
                   with_reducible rfl
                  rotate_left
                  ·simp only [Act.put,List.setIfInBounds_toArray,List.set_cons_zero,List.set_cons_succ,i64_w,i32_w]
                   rfl
                  refine take_ (i := 8) (N := some 106) (v := ?_) (a' := ?_) #[true,true,true,true,true,true,true,true,true,false,false,false,false,false,false,false] rfl rfl (take_ofW HT_.out HW_.out (by kernel_rfl)) (fun _ _ _ h => h) (Or.inl ⟨by rfl,?_⟩) hHeld ?_ ?_
                  rotate_left
                  ·rintro w' ⟨s0,s1,s2,s3,s4,s5,s6,s7,s8,s9,s10,s11,s12,s13,s14⟩
                   go_simp
                   with_reducible rfl
                  rotate_left
                  ·simp only [Act.put,List.setIfInBounds_toArray,List.set_cons_zero,List.set_cons_succ,i64_w,i32_w]
                   rfl
                  refine take_ (i := 9) (N := some 107) (v := ?_) (a' := ?_) #[true,true,true,true,true,true,true,true,true,true,false,false,false,false,false,false] rfl rfl (take_ofW HT_.out HW_.out (by kernel_rfl)) (fun _ _ _ h => h) (Or.inl ⟨by rfl,?_⟩) hHeld ?_ ?_
                  rotate_left
                  ·rintro w' ⟨s0,s1,s2,s3,s4,s5,s6,s7,s8,s9,s10,s11,s12,s13,s14⟩
                   go_simp
                   with_reducible rfl
                  rotate_left
                  ·simp only [Act.put,List.setIfInBounds_toArray,List.set_cons_zero,List.set_cons_succ,i64_w,i32_w]
                   rfl
                  refine one_ (i := 10) (N := some 108) #[true,true,true,true,true,true,true,true,true,true,true,false,false,false,false,false] rfl rfl (one_of HT_.out (by kernel_rfl)) (by decide) (fun K hK => ?_)
                  refine goes_ Try.func66 (by kernel_rfl) rfl #[.agg #[.int .i64 ((rd_T27 l0_5 (ji85)).f0),.int .i64 ((rd_T27 l0_5 (ji85)).f1),.int .i64 ((rd_T27 l0_5 (ji85)).f2),.int .i64 ((rd_T27 l0_5 (ji85)).f3),.int .i64 ((rd_T27 l0_5 (ji85)).f4),.slice A249_5 ((rd_T27 l0_5 (ji85)).f5).length c249_5],.agg #[.int .u64 ((rd_T46 l1_2 x92_2).f0),.slice A247_1 ((rd_T46 l1_2 x92_2).f1).length c247_1,.slice A247_2 ((rd_T46 l1_2 x92_2).f2).length c247_2]] (by rfl) rfl rfl (by (try simp only [List.map_toArray,List.map_cons,List.map_nil]);first | done | (simp only [hji85];rfl) | rfl | (simp only [List.length_drop,List.length_take];rfl)) ?_
                  with_reducible refine (ih k2 (by have := HJ63.out;have := HK2.out;omega) ((rd_T27 l0_5 (ji85)).f0) ((rd_T27 l0_5 (ji85)).f1) ((rd_T27 l0_5 (ji85)).f2) ((rd_T27 l0_5 (ji85)).f3) ((rd_T27 l0_5 (ji85)).f4) _ _ ((rd_T27 l0_5 (ji85)).f5) ((rd_T46 l1_2 x92_2).f0) _ _ ((rd_T46 l1_2 x92_2).f1) _ _ ((rd_T46 l1_2 x92_2).f2) t250 t251 _ ?side1 ?side2 ?side3 ?side4 ?side5 ?side6 A88.out).mono ?_
                  (case side1 => repeat (first | exact (Kd.C_below HR249_5.out HB.out) | (with_reducible refine Kd.C_alloc ?_ _) | (with_reducible refine Kd.C_drewN ?_ _) | (with_reducible refine Kd.C_drew ?_)))
                  (case side2 => exact HC249_5.out)
                  (case side3 => repeat (first | exact (Kd.C_below HR247_1.out HB.out) | (with_reducible refine Kd.C_alloc ?_ _) | (with_reducible refine Kd.C_drewN ?_ _) | (with_reducible refine Kd.C_drew ?_)))
                  (case side4 => exact HC247_1.out)
                  (case side5 => repeat (first | exact (Kd.C_below HR247_2.out HB.out) | (with_reducible refine Kd.C_alloc ?_ _) | (with_reducible refine Kd.C_drewN ?_ _) | (with_reducible refine Kd.C_drew ?_)))
                  (case side6 => exact HC247_2.out)
                  rintro e w103 ⟨rfl,hb⟩
                  refine ⟨_,rfl,?_⟩
                  have n0_ := Aside0.mk (blk_below (g := gb241) (o := .cells #[.int .i64 a0_0,.int .i64 a0_1,.int .i64 a0_2,.int .i64 a0_3,.int .i64 a0_4,.slice (some ad249) l0_5.length c0_5] 27 (0,0)) (by (with_reducible repeat (first | refine blk_drewN ?_ _ | refine blk_drew ?_ | refine blk_alloc ?_ _));exact BK241.out) hb)
                  have n1_ := Aside0.mk (blk_below (g := gb242) (o := .cells #[.int .u64 a1_0,.slice A1_1 l1_1.length c1_1,.slice (some ad247) l1_2.length c1_2] 46 (0,0)) (by (with_reducible repeat (first | refine blk_drewN ?_ _ | refine blk_drew ?_ | refine blk_alloc ?_ _));exact BK242.out) hb)
                  have n2_ := Aside0.mk (blk_below (g := gb248) (o := .cells #[.int .u64 ((rd_T46 l1_2 x92_2).f0),.slice A247_1 ((rd_T46 l1_2 x92_2).f1).length c247_1,.slice A247_2 ((rd_T46 l1_2 x92_2).f2).length c247_2] 46 (0,0)) (by (with_reducible repeat (first | refine blk_drewN ?_ _ | refine blk_drew ?_ | refine blk_alloc ?_ _));exact BK248.out) hb)
                  have n3_ := Aside0.mk (below_step (by repeat (first | (with_reducible first | exact HB.out | apply below_alloc | apply pw_below_drewN | apply below_drew1 | refine below_set ?_ GE241.out | refine below_set ?_ GE242.out | refine below_set ?_ GE248.out) | exact HB.out)) hb)
                  clear BK241
                  clear BK242
                  clear BK248
                  clear HB
                  have BK241 := n0_
                  have BK242 := n1_
                  have BK248 := n2_
                  have HB := n3_
                  clear n0_ n1_ n2_ n3_
                  (try clear hb)
                  (try clear hb2)
                  (try clear hk)
                  (try clear hi)
                  refine hK.out _ _ ⟨(blk_cell BK241.out 0).trans rfl,(blk_cell BK241.out 1).trans rfl,(blk_cell BK241.out 2).trans rfl,(blk_cell BK241.out 3).trans rfl,(blk_cell BK241.out 4).trans rfl,(blk_cell BK241.out 5).trans rfl,(blk_cell BK248.out 0).trans rfl,(blk_cell BK248.out 1).trans rfl,(blk_cell BK248.out 2).trans rfl,((HB.out.cell (World.block_lt_of_cell? w _ hw249_0)).trans hw249_0),((HB.out.cell (World.block_lt_of_cell? w _ hw249_1)).trans hw249_1),((HB.out.cell (World.block_lt_of_cell? w _ hw249_2)).trans hw249_2),((HB.out.cell (World.block_lt_of_cell? w _ hw249_3)).trans hw249_3),((HB.out.cell (World.block_lt_of_cell? w _ hw249_4)).trans hw249_4),((HB.out.cell (World.block_lt_of_cell? w _ hw249_5)).trans hw249_5)⟩ (fun hHeld => ?_)
                  clear hK K
                  refine norm_ (a' := ?_) ?_ ?_
                  rotate_left
                  ·show Act.put _ (some 108) _ = _
                   simp only [Act.put,List.setIfInBounds_toArray,List.set_cons_zero,List.set_cons_succ,i64_w,i32_w]
                   rfl
                  refine pure_ (i := 11) (N := some 97) (v := ?_) (a' := ?_) #[true,true,true,true,true,true,true,true,true,true,true,true,false,false,false,false] rfl rfl (any_of HT_.out (by kernel_rfl)) (fun _ _ _ h => h) (Or.inl ⟨by rfl,?_⟩) ?_ ?_
                  rotate_left
                  ·intro w'
                   go_simp
                   with_reducible rfl
                  rotate_left
                  ·simp only [Act.put,List.setIfInBounds_toArray,List.set_cons_zero,List.set_cons_succ,i64_w,i32_w]
                   rfl
                  refine pure_ (i := 12) (N := some 109) (v := ?_) (a' := ?_) #[true,true,true,true,true,true,true,true,true,true,true,true,true,false,false,false] rfl rfl (any_of HT_.out (by kernel_rfl)) (fun _ _ _ h => h) (Or.inl ⟨by rfl,?_⟩) ?_ ?_
                  rotate_left
                  ·intro w'
                   go_simp
                   with_reducible rfl
                  rotate_left
                  ·simp only [Act.put,List.setIfInBounds_toArray,List.set_cons_zero,List.set_cons_succ,i64_w,i32_w]
                   rfl
                  refine pure_ (i := 13) (N := some 110) (v := ?_) (a' := ?_) #[true,true,true,true,true,true,true,true,true,true,true,true,true,true,false,false] rfl rfl (any_of HT_.out (by kernel_rfl)) (fun _ _ _ h => h) (Or.inl ⟨by rfl,?_⟩) ?_ ?_
                  rotate_left
                  ·intro w'
                   go_simp
                   with_reducible rfl
                  rotate_left
                  ·simp only [Act.put,List.setIfInBounds_toArray,List.set_cons_zero,List.set_cons_succ,i64_w,i32_w]
                   rfl
                  refine pure_ (i := 14) (N := some 9) (v := ?_) (a' := ?_) #[true,true,true,true,true,true,true,true,true,true,true,true,true,true,true,false] rfl rfl (any_of HT_.out (by kernel_rfl)) (fun _ _ _ h => h) (Or.inl ⟨by rfl,?_⟩) ?_ ?_
                  rotate_left
                  ·intro w'
                   go_simp
                   with_reducible rfl
                  rotate_left
                  ·simp only [Act.put,List.setIfInBounds_toArray,List.set_cons_zero,List.set_cons_succ,i64_w,i32_w]
                   rfl
                  refine pure_ (i := 15) (N := some 10) (v := ?_) (a' := ?_) #[true,true,true,true,true,true,true,true,true,true,true,true,true,true,true,true] rfl rfl (any_of HT_.out (by kernel_rfl)) (fun _ _ _ h => h) (Or.inl ⟨by rfl,?_⟩) ?_ ?_
                  rotate_left
                  ·intro w'
                   go_simp
                   with_reducible rfl
                  rotate_left
                  ·simp only [Act.put,List.setIfInBounds_toArray,List.set_cons_zero,List.set_cons_succ,i64_w,i32_w]
                   rfl
                  refine done_ (done_of HT_.out (by kernel_rfl)) ?_
                  try go_wp2
                  go_ret2
                  exact ⟨by first | rfl | (simp [errW_none,errW_some] <;> rfl) | (simp only [← hji85];first | rfl | (simp [errW_none,errW_some] <;> rfl)) | (simp [*,errW_none,errW_some] <;> rfl),by repeat (first | (with_reducible first | exact HB.out | apply below_alloc | apply pw_below_drewN | apply below_drew1 | refine below_set ?_ GE241.out | refine below_set ?_ GE242.out | refine below_set ?_ GE248.out) | exact HB.out)⟩
                ·rw [if_neg c87] at H
                 exact absurd H (by simp)
               ·rw [if_neg c86] at H
                exact absurd H (by simp)
             ·rw [if_neg c83] at H
              exact absurd H (by simp)
            ·rw [if_neg c82] at H
             exact absurd H (by simp)
           ·rw [if_neg c81] at H
            have c81b0 : decide (x92_2 < (l1_2.length : Int)) = false := decide_eq_false c81
            clear c81
            by_cases c104 : a0_0 = 3
            ·rw [if_pos c104] at H
             have c104b0 : (a0_0 == 3) = true := beq_iff_eq.mpr c104
             have c104b1 : (a0_0 != 3) = false := bne_eq_false_iff_eq.mpr c104
             clear c104
             simp only [Option.some.injEq,Prod.mk.injEq] at H
             obtain ⟨rfl,rfl⟩ := H
             have hnb105 := NB241_242.out
             have hnc105 := NB242_241.out
             have hcz106_0 : wr.cell? ⟨gb241,0,none⟩ = some (.int .i64 a0_0) := (blk_cell BK241.out 0).trans rfl
             have hcz106_1 : wr.cell? ⟨gb241,1,none⟩ = some (.int .i64 a0_1) := (blk_cell BK241.out 1).trans rfl
             have hcz106_2 : wr.cell? ⟨gb241,2,none⟩ = some (.int .i64 a0_2) := (blk_cell BK241.out 2).trans rfl
             have hcz106_3 : wr.cell? ⟨gb241,3,none⟩ = some (.int .i64 a0_3) := (blk_cell BK241.out 3).trans rfl
             have hcz106_4 : wr.cell? ⟨gb241,4,none⟩ = some (.int .i64 a0_4) := (blk_cell BK241.out 4).trans rfl
             have hcz106_5 : wr.cell? ⟨gb241,5,none⟩ = some (.slice A0_5 l0_5.length c0_5) := (blk_cell BK241.out 5).trans rfl
             have hfz106_0 := blk_frozen BK241.out 0
             have hfz106_1 := blk_frozen BK241.out 1
             have hfz106_2 := blk_frozen BK241.out 2
             have hfz106_3 := blk_frozen BK241.out 3
             have hfz106_4 := blk_frozen BK241.out 4
             have hfz106_5 := blk_frozen BK241.out 5
             go_wp2
             go_ret2
             exact ⟨by first | rfl | (simp [errW_none,errW_some] <;> rfl) | (simp [*,errW_none,errW_some] <;> rfl),by repeat (first | (with_reducible first | exact HB.out | apply below_alloc | apply pw_below_drewN | apply below_drew1 | refine below_set ?_ GE241.out | refine below_set ?_ GE242.out) | exact HB.out)⟩
            ·rw [if_neg c104] at H
             have c104b0 : (a0_0 == 3) = false := beq_eq_false_iff_ne.mpr c104
             have c104b1 : (a0_0 != 3) = true := bne_iff_ne.mpr c104
             replace H := Option.bind_eq_some_iff.mp H
             obtain ⟨t252,A1070,H⟩ := H
             replace H : (some (wrap64 (a0_1 + x6_2),t252)) = some (r1,r2) := H
             have A107 := Aside0.mk A1070
             clear A1070
             simp only [Option.some.injEq,Prod.mk.injEq] at H
             obtain ⟨rfl,rfl⟩ := H
             have hnb108 := NB241_242.out
             have hnc108 := NB242_241.out
             have hcz109_0 : wr.cell? ⟨gb241,0,none⟩ = some (.int .i64 a0_0) := (blk_cell BK241.out 0).trans rfl
             have hcz109_1 : wr.cell? ⟨gb241,1,none⟩ = some (.int .i64 a0_1) := (blk_cell BK241.out 1).trans rfl
             have hcz109_2 : wr.cell? ⟨gb241,2,none⟩ = some (.int .i64 a0_2) := (blk_cell BK241.out 2).trans rfl
             have hcz109_3 : wr.cell? ⟨gb241,3,none⟩ = some (.int .i64 a0_3) := (blk_cell BK241.out 3).trans rfl
             have hcz109_4 : wr.cell? ⟨gb241,4,none⟩ = some (.int .i64 a0_4) := (blk_cell BK241.out 4).trans rfl
             have hcz109_5 : wr.cell? ⟨gb241,5,none⟩ = some (.slice A0_5 l0_5.length c0_5) := (blk_cell BK241.out 5).trans rfl
             have hfz109_0 := blk_frozen BK241.out 0
             have hfz109_1 := blk_frozen BK241.out 1
             have hfz109_2 := blk_frozen BK241.out 2
             have hfz109_3 := blk_frozen BK241.out 3
             have hfz109_4 := blk_frozen BK241.out 4
             have hfz109_5 := blk_frozen BK241.out 5
             try go_wp2
             have n0_ := Aside0.mk (blk_drew BK241.out)
             have n1_ := Aside0.mk (blk_drew BK242.out)
             have n2_ := Aside0.mk (below_drew1 HB.out)
             clear BK241
             clear BK242
             clear HB
             have BK241 := n0_
             have BK242 := n1_
             have HB := n2_
             clear n0_ n1_ n2_
             refine start_ (n := 14) (S := fun w' => w'.cell? ⟨gb241,0,none⟩ = some (.int .i64 a0_0) ∧ w'.cell? ⟨gb241,1,none⟩ = some (.int .i64 a0_1) ∧ w'.cell? ⟨gb241,2,none⟩ = some (.int .i64 a0_2) ∧ w'.cell? ⟨gb241,3,none⟩ = some (.int .i64 a0_3) ∧ w'.cell? ⟨gb241,4,none⟩ = some (.int .i64 a0_4) ∧ w'.cell? ⟨gb241,5,none⟩ = some (.slice A0_5 l0_5.length c0_5)) (ds := []) #[false,false,false,false,false,false,false,false,false,false,false,false,false,false] (by kernel_rfl) rfl rfl ⟨(blk_cell BK241.out 0).trans rfl,(blk_cell BK241.out 1).trans rfl,(blk_cell BK241.out 2).trans rfl,(blk_cell BK241.out 3).trans rfl,(blk_cell BK241.out 4).trans rfl,(blk_cell BK241.out 5).trans rfl⟩ (fun hHeld => ?_);refine with_tabW value_fit.tab27 value_fit.bits27 (fun HT_ HW_ => ?_)
             generalize wr.drew = w110 at BK241 BK242 HB hHeld ⊢
             refine pure_ (i := 0) (N := some 122) (v := ?_) (a' := ?_) #[true,false,false,false,false,false,false,false,false,false,false,false,false,false] rfl rfl (any_of HT_.out (by kernel_rfl)) (fun _ _ _ h => h) (Or.inl ⟨by rfl,?_⟩) ?_ ?_
             rotate_left
             ·intro w'
              go_simp
              with_reducible rfl
             rotate_left
             ·simp only [Act.put,List.setIfInBounds_toArray,List.set_cons_zero,List.set_cons_succ,i64_w,i32_w]
              rfl
             refine pure_ (i := 2) (N := some 124) (v := ?_) (a' := ?_) #[true,false,true,false,false,false,false,false,false,false,false,false,false,false] rfl rfl (any_of HT_.out (by kernel_rfl)) (fun _ _ _ h => h) (Or.inl ⟨by rfl,?_⟩) ?_ ?_
             rotate_left
             ·intro w'
              go_simp
              with_reducible rfl
             rotate_left
             ·simp only [Act.put,List.setIfInBounds_toArray,List.set_cons_zero,List.set_cons_succ,i64_w,i32_w]
              rfl
             refine pure_ (i := 4) (N := some 126) (v := ?_) (a' := ?_) #[true,false,true,false,true,false,false,false,false,false,false,false,false,false] rfl rfl (any_of HT_.out (by kernel_rfl)) (fun _ _ _ h => h) (Or.inl ⟨by rfl,?_⟩) ?_ ?_
             rotate_left
             ·intro w'
              go_simp
              with_reducible rfl
             rotate_left
             ·simp only [Act.put,List.setIfInBounds_toArray,List.set_cons_zero,List.set_cons_succ,i64_w,i32_w]
              rfl
             refine pure_ (i := 5) (N := some 127) (v := ?_) (a' := ?_) #[true,false,true,false,true,true,false,false,false,false,false,false,false,false] rfl rfl (any_of HT_.out (by kernel_rfl)) (fun _ _ _ h => h) (Or.inl ⟨by rfl,?_⟩) ?_ ?_
             rotate_left
             ·intro w'
              go_simp
              with_reducible rfl
             rotate_left
             ·simp only [Act.put,List.setIfInBounds_toArray,List.set_cons_zero,List.set_cons_succ,i64_w,i32_w]
              rfl
             refine pure_ (i := 7) (N := some 129) (v := ?_) (a' := ?_) #[true,false,true,false,true,true,false,true,false,false,false,false,false,false] rfl rfl (any_of HT_.out (by kernel_rfl)) (fun _ _ _ h => h) (Or.inl ⟨by rfl,?_⟩) ?_ ?_
             rotate_left
             ·intro w'
              go_simp
              with_reducible rfl
             rotate_left
             ·simp only [Act.put,List.setIfInBounds_toArray,List.set_cons_zero,List.set_cons_succ,i64_w,i32_w]
              rfl
             refine pure_ (i := 9) (N := some 131) (v := ?_) (a' := ?_) #[true,false,true,false,true,true,false,true,false,true,false,false,false,false] rfl rfl (any_of HT_.out (by kernel_rfl)) (fun _ _ _ h => h) (Or.inl ⟨by rfl,?_⟩) ?_ ?_
             rotate_left
             ·intro w'
              go_simp
              with_reducible rfl
             rotate_left
             ·simp only [Act.put,List.setIfInBounds_toArray,List.set_cons_zero,List.set_cons_succ,i64_w,i32_w]
              rfl
             refine take_ (i := 1) (N := some 123) (v := ?_) (a' := ?_) #[true,true,true,false,true,true,false,true,false,true,false,false,false,false] rfl rfl (take_ofW HT_.out HW_.out (by kernel_rfl)) (fun _ _ _ h => h) (Or.inl ⟨by rfl,?_⟩) hHeld ?_ ?_
             rotate_left
             ·rintro w' ⟨s0,s1,s2,s3,s4,s5⟩
              go_simp
              with_reducible rfl
             rotate_left
             ·simp only [Act.put,List.setIfInBounds_toArray,List.set_cons_zero,List.set_cons_succ,i64_w,i32_w]
              rfl
             refine pure_ (i := 3) (N := some 125) (v := ?_) (a' := ?_) #[true,true,true,true,true,true,false,true,false,true,false,false,false,false] rfl rfl (any_of HT_.out (by kernel_rfl)) (fun _ _ _ h => h) (Or.inl ⟨by rfl,?_⟩) ?_ ?_
             rotate_left
             ·intro w'
              go_simp
              with_reducible rfl
             rotate_left
             ·simp only [Act.put,List.setIfInBounds_toArray,List.set_cons_zero,List.set_cons_succ,i64_w,i32_w]
              rfl
             refine take_ (i := 6) (N := some 128) (v := ?_) (a' := ?_) #[true,true,true,true,true,true,true,true,false,true,false,false,false,false] rfl rfl (take_ofW HT_.out HW_.out (by kernel_rfl)) (fun _ _ _ h => h) (Or.inl ⟨by rfl,?_⟩) hHeld ?_ ?_
             rotate_left
             ·rintro w' ⟨s0,s1,s2,s3,s4,s5⟩
              go_simp
              with_reducible rfl
             rotate_left
             ·simp only [Act.put,List.setIfInBounds_toArray,List.set_cons_zero,List.set_cons_succ,i64_w,i32_w]
              rfl
             refine take_ (i := 8) (N := some 130) (v := ?_) (a' := ?_) #[true,true,true,true,true,true,true,true,true,true,false,false,false,false] rfl rfl (take_ofW HT_.out HW_.out (by kernel_rfl)) (fun _ _ _ h => h) (Or.inl ⟨by rfl,?_⟩) hHeld ?_ ?_
             rotate_left
             ·rintro w' ⟨s0,s1,s2,s3,s4,s5⟩
              go_simp
              with_reducible rfl
             rotate_left
             ·simp only [Act.put,List.setIfInBounds_toArray,List.set_cons_zero,List.set_cons_succ,i64_w,i32_w]
              rfl
             refine take_ (i := 10) (N := some 132) (v := ?_) (a' := ?_) #[true,true,true,true,true,true,true,true,true,true,true,false,false,false] rfl rfl (take_ofW HT_.out HW_.out (by kernel_rfl)) (fun _ _ _ h => h) (Or.inl ⟨by rfl,?_⟩) hHeld ?_ ?_
             rotate_left
             ·rintro w' ⟨s0,s1,s2,s3,s4,s5⟩
              go_simp
              with_reducible rfl
             rotate_left
             ·simp only [Act.put,List.setIfInBounds_toArray,List.set_cons_zero,List.set_cons_succ,i64_w,i32_w]
              rfl
             refine one_ (i := 11) (N := some 133) #[true,true,true,true,true,true,true,true,true,true,true,true,false,false] rfl rfl (one_of HT_.out (by kernel_rfl)) (by decide) (fun K hK => ?_)
             refine goes_ Try.func71 (by kernel_rfl) rfl #[.int .i64 x6_2,.int .i64 a0_2,.int .i64 a0_3,.int .i64 a0_4] (by rfl) rfl rfl (by (try simp only [List.map_toArray,List.map_cons,List.map_nil]);first | done | rfl | (simp only [List.length_drop,List.length_take];rfl)) ?_
             with_reducible refine (value_may.calls x6_2 a0_2 a0_3 a0_4 t252 _ A107.out).mono ?_
             rintro e w' ⟨rfl,⟨nd,rfl⟩⟩
             refine ⟨_,rfl,?_⟩
             refine hK.out _ _ ⟨(blk_cell BK241.out 0).trans rfl,(blk_cell BK241.out 1).trans rfl,(blk_cell BK241.out 2).trans rfl,(blk_cell BK241.out 3).trans rfl,(blk_cell BK241.out 4).trans rfl,(blk_cell BK241.out 5).trans rfl⟩ (fun hHeld => ?_)
             clear hK K
             refine norm_ (a' := ?_) ?_ ?_
             rotate_left
             ·show Act.put _ (some 133) _ = _
              simp only [Act.put,List.setIfInBounds_toArray,List.set_cons_zero,List.set_cons_succ,i64_w,i32_w]
              rfl
             refine pure_ (i := 12) (N := some 4) (v := ?_) (a' := ?_) #[true,true,true,true,true,true,true,true,true,true,true,true,true,false] rfl rfl (any_of HT_.out (by kernel_rfl)) (fun _ _ _ h => h) (Or.inl ⟨by rfl,?_⟩) ?_ ?_
             rotate_left
             ·intro w'
              go_simp
              with_reducible rfl
             rotate_left
             ·simp only [Act.put,List.setIfInBounds_toArray,List.set_cons_zero,List.set_cons_succ,i64_w,i32_w]
              rfl
             refine pure_ (i := 13) (N := some 5) (v := ?_) (a' := ?_) #[true,true,true,true,true,true,true,true,true,true,true,true,true,true] rfl rfl (any_of HT_.out (by kernel_rfl)) (fun _ _ _ h => h) (Or.inl ⟨by rfl,?_⟩) ?_ ?_
             rotate_left
             ·intro w'
              go_simp
              with_reducible rfl
             rotate_left
             ·simp only [Act.put,List.setIfInBounds_toArray,List.set_cons_zero,List.set_cons_succ,i64_w,i32_w]
              rfl
             refine done_ (done_of HT_.out (by kernel_rfl)) ?_
             try go_wp2
             go_ret2
             exact ⟨by first | rfl | (simp [errW_none,errW_some] <;> rfl) | (simp [*,errW_none,errW_some] <;> rfl),by repeat (first | (with_reducible first | exact HB.out | apply below_alloc | apply pw_below_drewN | apply below_drew1 | refine below_set ?_ GE241.out | refine below_set ?_ GE242.out) | exact HB.out)⟩
 ·replace c4 := Bool.eq_false_iff.mpr c4
  subst c4
  have H1 : (some (0,15)) = some (r1,r2) := by rw [if_neg (show ¬ (false = true) by decide)] at H;exact H
  clear H
  have H := H1
  clear H1
  simp only [Option.some.injEq,Prod.mk.injEq] at H
  obtain ⟨rfl,rfl⟩ := H
  go_enter Try.func66,Try.ntmps66
  go_wp2_with (first | ((with_reducible refine gate_dst (N := 2) rfl ?_);(try (refine gate_guard (by rfl) ?_;dsimp only));refine box_event ?hg (N := 2) ?hd (cs := #[.int .i64 a0_0,.int .i64 a0_1,.int .i64 a0_2,.int .i64 a0_3,.int .i64 a0_4,.slice A0_5 l0_5.length c0_5]) (t := 27) ?hr ?_;(case hd => rfl);(case hg => rfl);(case hr => first | (go_simp;done) | (go_simp;rfl));intro gb241 hg w111 hbox hb;have n0_ := Aside0.mk (below_step (by repeat (first | (with_reducible first | exact HB.out | apply below_alloc | apply pw_below_drewN | apply below_drew1) | exact HB.out)) hb);have n1_ := Aside0.mk (hbox);have n2_ := Aside0.mk ((by rw [hg];exact (below_size (by repeat (first | (with_reducible first | exact HB.out | apply below_alloc | apply pw_below_drewN | apply below_drew1) | exact HB.out))) : w.heap.size ≤ gb241));have n3_ := Aside0.mk ((by rw [hg];exact (below_size (by repeat (first | (with_reducible first | exact HB.out | apply below_alloc | apply pw_below_drewN | apply below_drew1) | exact HB.out))) : w.heap.size ≤ gb241));clear HB;have HB := n0_;have BK241 := n1_;have GW241 := n2_;have GE241 := n3_;clear n0_ n1_ n2_ n3_;clear hb hbox hg) | ((with_reducible refine gate_dst (N := 3) rfl ?_);(try (refine gate_guard (by rfl) ?_;dsimp only));refine box_event ?hg (N := 3) ?hd (cs := #[.int .u64 a1_0,.slice A1_1 l1_1.length c1_1,.slice A1_2 l1_2.length c1_2]) (t := 46) ?hr ?_;(case hd => rfl);(case hg => rfl);(case hr => first | (go_simp;done) | (go_simp;rfl));intro gb242 hg w112 hbox hb;have n0_ := Aside0.mk (blk_below (g := gb241) (o := .cells #[.int .i64 a0_0,.int .i64 a0_1,.int .i64 a0_2,.int .i64 a0_3,.int .i64 a0_4,.slice A0_5 l0_5.length c0_5] 27 (0,0)) (by (with_reducible repeat (first | refine blk_drewN ?_ _ | refine blk_drew ?_ | refine blk_alloc ?_ _));exact BK241.out) hb);have n1_ := Aside0.mk (below_step (by repeat (first | (with_reducible first | exact HB.out | apply below_alloc | apply pw_below_drewN | apply below_drew1 | refine below_set ?_ GE241.out) | exact HB.out)) hb);have n2_ := Aside0.mk (hbox);have n3_ := Aside0.mk ((by rw [hg];exact (below_size (by repeat (first | (with_reducible first | exact HB.out | apply below_alloc | apply pw_below_drewN | apply below_drew1 | refine below_set ?_ GE241.out) | exact HB.out))) : w.heap.size ≤ gb242));have n4_ := Aside0.mk ((by rw [hg];exact (below_size (by repeat (first | (with_reducible first | exact HB.out | apply below_alloc | apply pw_below_drewN | apply below_drew1 | refine below_set ?_ GE241.out) | exact HB.out))) : w.heap.size ≤ gb242));have n5_ := Aside0.mk ((by rw [hg];exact Nat.ne_of_lt (blk_lt (g := gb241) (o := .cells #[.int .i64 a0_0,.int .i64 a0_1,.int .i64 a0_2,.int .i64 a0_3,.int .i64 a0_4,.slice A0_5 l0_5.length c0_5] 27 (0,0)) (by (with_reducible repeat (first | refine blk_drewN ?_ _ | refine blk_drew ?_ | refine blk_alloc ?_ _));exact BK241.out)) : gb241 ≠ gb242));have n6_ := Aside0.mk ((by rw [hg];exact Nat.ne_of_gt (blk_lt (g := gb241) (o := .cells #[.int .i64 a0_0,.int .i64 a0_1,.int .i64 a0_2,.int .i64 a0_3,.int .i64 a0_4,.slice A0_5 l0_5.length c0_5] 27 (0,0)) (by (with_reducible repeat (first | refine blk_drewN ?_ _ | refine blk_drew ?_ | refine blk_alloc ?_ _));exact BK241.out)) : gb242 ≠ gb241));clear BK241;clear HB;have BK241 := n0_;have HB := n1_;have BK242 := n2_;have GW242 := n3_;have GE242 := n4_;have NB241_242 := n5_;have NB242_241 := n6_;clear n0_ n1_ n2_ n3_ n4_ n5_ n6_;clear hb hbox hg;have hnb113 := NB241_242.out;have hnc113 := NB242_241.out;have hcz114_0 : w112.cell? ⟨gb241,0,none⟩ = some (.int .i64 a0_0) := (blk_cell BK241.out 0).trans rfl;have hcz114_1 : w112.cell? ⟨gb241,1,none⟩ = some (.int .i64 a0_1) := (blk_cell BK241.out 1).trans rfl;have hcz114_2 : w112.cell? ⟨gb241,2,none⟩ = some (.int .i64 a0_2) := (blk_cell BK241.out 2).trans rfl;have hcz114_3 : w112.cell? ⟨gb241,3,none⟩ = some (.int .i64 a0_3) := (blk_cell BK241.out 3).trans rfl;have hcz114_4 : w112.cell? ⟨gb241,4,none⟩ = some (.int .i64 a0_4) := (blk_cell BK241.out 4).trans rfl;have hcz114_5 : w112.cell? ⟨gb241,5,none⟩ = some (.slice A0_5 l0_5.length c0_5) := (blk_cell BK241.out 5).trans rfl;have hfz114_0 := blk_frozen BK241.out 0;have hfz114_1 := blk_frozen BK241.out 1;have hfz114_2 := blk_frozen BK241.out 2;have hfz114_3 := blk_frozen BK241.out 3;have hfz114_4 := blk_frozen BK241.out 4;have hfz114_5 := blk_frozen BK241.out 5;have hcz115_0 : w112.cell? ⟨gb242,0,none⟩ = some (.int .u64 a1_0) := (blk_cell BK242.out 0).trans rfl;have hcz115_1 : w112.cell? ⟨gb242,1,none⟩ = some (.slice A1_1 l1_1.length c1_1) := (blk_cell BK242.out 1).trans rfl;have hcz115_2 : w112.cell? ⟨gb242,2,none⟩ = some (.slice A1_2 l1_2.length c1_2) := (blk_cell BK242.out 2).trans rfl;have hfz115_0 := blk_frozen BK242.out 0;have hfz115_1 := blk_frozen BK242.out 1;have hfz115_2 := blk_frozen BK242.out 2) | ((with_reducible refine gate_callee (f := 70) rfl ?_);refine goesL_ (some 14) rfl rfl Try.func70 (by kernel_rfl) rfl #[.int .i64 a0_0,.agg #[.int .u64 a1_0,.slice A1_1 l1_1.length c1_1,.slice A1_2 l1_2.length c1_2]] rfl (by (try simp only [List.map_toArray,List.map_cons,List.map_nil]);first | done | rfl | (simp only [List.length_drop,List.length_take];rfl)) ?_;(with_reducible refine (value_alone.calls a0_0 a1_0 _ _ l1_1 _ _ l1_2 false _ ?side1 ?side2 ?side3 ?side4 A3.out).mono ?_);(case side1 => repeat (first | exact (Kd.C_below HR1_1.out HB.out) | (with_reducible refine Kd.C_alloc ?_ _) | (with_reducible refine Kd.C_drewN ?_ _) | (with_reducible refine Kd.C_drew ?_)));(case side2 => exact HC1_1.out);(case side3 => repeat (first | exact (Kd.C_below HR1_2.out HB.out) | (with_reducible refine Kd.C_alloc ?_ _) | (with_reducible refine Kd.C_drewN ?_ _) | (with_reducible refine Kd.C_drew ?_)));(case side4 => exact HC1_2.out);rintro e w116 ⟨rfl,hb⟩;refine ⟨_,rfl,?_⟩;have n0_ := Aside0.mk (blk_below (g := gb241) (o := .cells #[.int .i64 a0_0,.int .i64 a0_1,.int .i64 a0_2,.int .i64 a0_3,.int .i64 a0_4,.slice A0_5 l0_5.length c0_5] 27 (0,0)) (by (with_reducible repeat (first | refine blk_drewN ?_ _ | refine blk_drew ?_ | refine blk_alloc ?_ _));exact BK241.out) hb);have n1_ := Aside0.mk (blk_below (g := gb242) (o := .cells #[.int .u64 a1_0,.slice A1_1 l1_1.length c1_1,.slice A1_2 l1_2.length c1_2] 46 (0,0)) (by (with_reducible repeat (first | refine blk_drewN ?_ _ | refine blk_drew ?_ | refine blk_alloc ?_ _));exact BK242.out) hb);have n2_ := Aside0.mk (below_step (by repeat (first | (with_reducible first | exact HB.out | apply below_alloc | apply pw_below_drewN | apply below_drew1 | refine below_set ?_ GE241.out | refine below_set ?_ GE242.out) | exact HB.out)) hb);clear BK241;clear BK242;clear HB;have BK241 := n0_;have BK242 := n1_;have HB := n2_;clear n0_ n1_ n2_;(try clear hb);(try clear hb2);(try clear hk);(try clear hi)))
  go_ret2
  exact ⟨by first | rfl | (simp [errW_none,errW_some] <;> rfl) | (simp [*,errW_none,errW_some] <;> rfl),by repeat (first | (with_reducible first | exact HB.out | apply below_alloc | apply pw_below_drewN | apply below_drew1 | refine below_set ?_ GE241.out | refine below_set ?_ GE242.out) | exact HB.out)⟩

end Go.Proofs.Ytfcghajnnllmhaa.QP

namespace Go.Proofs.Ytfcghajnnllmhaa.QP
open Go.RowKit Go.Proofs.YtfcghajnnllmhaaW.PrintWords Go.Proofs.YtfcghajnnllmhaaW.PrintLast Go.Proofs.YtfcghajnnllmhaaW.PrintMore
attribute [local go_sem] max2_int min2_int max_two min_two max_three min_three max_four min_four   -- for this text's walks alone
set_option linter.unusedVariables false
set_option linter.unusedSimpArgs false

/-! ### value_size: function 56 -/
def value_size.f (k : Nat) (a0_0 : Int) (a0_1 : Int) (a0_2 : Int) (a0_3 : Int) (a0_4 : Int) (l0_5 : List (S27)) (a1_0 : Int) (l1_1 : List Int) (l1_2 : List (S46)) : Option (Int × Int) := (layout_Check.f a0_0 a0_1 a0_2 a0_3 a0_4 l0_5).bind fun t255 => (if t255 = 0 then ((value_fit.f k a0_0 a0_1 a0_2 a0_3 a0_4 l0_5 a1_0 l1_1 l1_2).bind fun bt256 => (if bt256.2 = 0 then (some (bt256.1,0)) else (some (0,bt256.2)))) else (some (0,t255)))
theorem value_size.mono : ∀ a0 a1 a2 a3 a4 a5 a6 a7 a8 k,LeO (value_size.f k a0 a1 a2 a3 a4 a5 a6 a7 a8) (value_size.f (k + 1) a0 a1 a2 a3 a4 a5 a6 a7 a8) := by
 intro a0 a1 a2 a3 a4 a5 a6 a7 a8 k
 unfold value_size.f
 repeat' first
   | (with_reducible exact value_fit.mono _ _ _ _ _ _ _ _ _ _)
   | (with_reducible exact LeO.refl _)
   | (with_reducible exact LeO.none _)
   | (with_reducible refine LeO.ite ?_ ?_)
   | (with_reducible refine LeO.bind ?_ (fun _ => ?_))
   | exact value_fit.mono _ _ _ _ _ _ _ _ _ _
   | exact LeO.none _
   | refine LeO.ite ?_ ?_
   | refine LeO.bind ?_ (fun _ => ?_)
set_option maxHeartbeats 8000000 in
set_option maxRecDepth 100000 in
theorem value_size.calls (k : Nat) (a0_0 : Int) (a0_1 : Int) (a0_2 : Int) (a0_3 : Int) (a0_4 : Int) (A0_5 : Option Addr) (c0_5 : Nat) (l0_5 : List (S27)) (a1_0 : Int) (A1_1 : Option Addr) (c1_1 : Nat) (l1_1 : List Int) (A1_2 : Option Addr) (c1_2 : Nat) (l1_2 : List (S46)) (r1 : Int) (r2 : Int) (w : World) (hr0_5 : Kd.C k27 w A0_5 l0_5.length l0_5) (hc0_5 : l0_5.length ≤ c0_5) (hr1_1 : Kd.C (Kd.int .u8) w A1_1 l1_1.length l1_1) (hc1_1 : l1_1.length ≤ c1_1) (hr1_2 : Kd.C k46 w A1_2 l1_2.length l1_2) (hc1_2 : l1_2.length ≤ c1_2) (h : value_size.f k a0_0 a0_1 a0_2 a0_3 a0_4 l0_5 a1_0 l1_1 l1_2 = some (r1,r2)) :
  Calls Try.prog 56 #[.agg #[.int .i64 a0_0,.int .i64 a0_1,.int .i64 a0_2,.int .i64 a0_3,.int .i64 a0_4,.slice A0_5 l0_5.length c0_5],.agg #[.int .u64 a1_0,.slice A1_1 l1_1.length c1_1,.slice A1_2 l1_2.length c1_2]] w fun e w' => e = .returned (.tuple #[.int .i64 r1,.int .i64 r2]) ∧ Below w.heap.size w w' := by
 have hu27 := Try.underlying27
 have hu46 := Try.underlying46
 have HR0_5 := Aside0.mk hr0_5
 have HC0_5 := Aside0.mk hc0_5
 clear hr0_5 hc0_5
 have HR1_1 := Aside0.mk hr1_1
 have HC1_1 := Aside0.mk hc1_1
 clear hr1_1 hc1_1
 have HR1_2 := Aside0.mk hr1_2
 have HC1_2 := Aside0.mk hc1_2
 clear hr1_2 hc1_2
 have HB := Aside0.mk (Below.refl w.heap.size w)
 have H : ((layout_Check.f a0_0 a0_1 a0_2 a0_3 a0_4 l0_5).bind fun t255 => (if t255 = 0 then ((value_fit.f k a0_0 a0_1 a0_2 a0_3 a0_4 l0_5 a1_0 l1_1 l1_2).bind fun bt256 => (if bt256.2 = 0 then (some (bt256.1,0)) else (some (0,bt256.2)))) else (some (0,t255)))) = some (r1,r2) := h
 clear h
 replace H := Option.bind_eq_some_iff.mp H
 obtain ⟨t255,A30,H⟩ := H
 replace H : (if t255 = 0 then ((value_fit.f k a0_0 a0_1 a0_2 a0_3 a0_4 l0_5 a1_0 l1_1 l1_2).bind fun bt256 => (if bt256.2 = 0 then (some (bt256.1,0)) else (some (0,bt256.2)))) else (some (0,t255))) = some (r1,r2) := H
 have A3 := Aside0.mk A30
 clear A30
 by_cases c4 : t255 = 0
 ·rw [if_pos c4] at H
  have c4b0 : (t255 == 0) = true := beq_iff_eq.mpr c4
  have c4b1 : (t255 != 0) = false := bne_eq_false_iff_eq.mpr c4
  clear c4
  replace H := Option.bind_eq_some_iff.mp H
  obtain ⟨⟨t256,t257⟩,A50,H⟩ := H
  replace H : (if t257 = 0 then (some (t256,0)) else (some (0,t257))) = some (r1,r2) := H
  have A5 := Aside0.mk A50
  clear A50
  by_cases c6 : t257 = 0
  ·rw [if_pos c6] at H
   have c6b0 : (t257 == 0) = true := beq_iff_eq.mpr c6
   have c6b1 : (t257 != 0) = false := bne_eq_false_iff_eq.mpr c6
   clear c6
   simp only [Option.some.injEq,Prod.mk.injEq] at H
   obtain ⟨rfl,rfl⟩ := H
   go_enter Try.func56,Try.ntmps56
   go_wp2_with (first | ((with_reducible refine gate_dst (N := 2) rfl ?_);refine box_event ?hg (N := 2) ?hd (cs := #[.int .i64 a0_0,.int .i64 a0_1,.int .i64 a0_2,.int .i64 a0_3,.int .i64 a0_4,.slice A0_5 l0_5.length c0_5]) (t := 27) ?hr ?_;(case hd => rfl);(case hg => rfl);(case hr => first | (go_simp;done) | (go_simp;rfl));intro gb253 hg w7 hbox hb;have n0_ := Aside0.mk (below_step (by repeat (first | (with_reducible first | exact HB.out | apply below_alloc | apply pw_below_drewN | apply below_drew1) | exact HB.out)) hb);have n1_ := Aside0.mk (hbox);have n2_ := Aside0.mk ((by rw [hg];exact (below_size (by repeat (first | (with_reducible first | exact HB.out | apply below_alloc | apply pw_below_drewN | apply below_drew1) | exact HB.out))) : w.heap.size ≤ gb253));have n3_ := Aside0.mk ((by rw [hg];exact (below_size (by repeat (first | (with_reducible first | exact HB.out | apply below_alloc | apply pw_below_drewN | apply below_drew1) | exact HB.out))) : w.heap.size ≤ gb253));clear HB;have HB := n0_;have BK253 := n1_;have GW253 := n2_;have GE253 := n3_;clear n0_ n1_ n2_ n3_;clear hb hbox hg) | ((with_reducible refine gate_dst (N := 3) rfl ?_);refine box_event ?hg (N := 3) ?hd (cs := #[.int .u64 a1_0,.slice A1_1 l1_1.length c1_1,.slice A1_2 l1_2.length c1_2]) (t := 46) ?hr ?_;(case hd => rfl);(case hg => rfl);(case hr => first | (go_simp;done) | (go_simp;rfl));intro gb254 hg w8 hbox hb;have n0_ := Aside0.mk (blk_below (g := gb253) (o := .cells #[.int .i64 a0_0,.int .i64 a0_1,.int .i64 a0_2,.int .i64 a0_3,.int .i64 a0_4,.slice A0_5 l0_5.length c0_5] 27 (0,0)) (by (with_reducible repeat (first | refine blk_drewN ?_ _ | refine blk_drew ?_ | refine blk_alloc ?_ _));exact BK253.out) hb);have n1_ := Aside0.mk (below_step (by repeat (first | (with_reducible first | exact HB.out | apply below_alloc | apply pw_below_drewN | apply below_drew1 | refine below_set ?_ GE253.out) | exact HB.out)) hb);have n2_ := Aside0.mk (hbox);have n3_ := Aside0.mk ((by rw [hg];exact (below_size (by repeat (first | (with_reducible first | exact HB.out | apply below_alloc | apply pw_below_drewN | apply below_drew1 | refine below_set ?_ GE253.out) | exact HB.out))) : w.heap.size ≤ gb254));have n4_ := Aside0.mk ((by rw [hg];exact (below_size (by repeat (first | (with_reducible first | exact HB.out | apply below_alloc | apply pw_below_drewN | apply below_drew1 | refine below_set ?_ GE253.out) | exact HB.out))) : w.heap.size ≤ gb254));have n5_ := Aside0.mk ((by rw [hg];exact Nat.ne_of_lt (blk_lt (g := gb253) (o := .cells #[.int .i64 a0_0,.int .i64 a0_1,.int .i64 a0_2,.int .i64 a0_3,.int .i64 a0_4,.slice A0_5 l0_5.length c0_5] 27 (0,0)) (by (with_reducible repeat (first | refine blk_drewN ?_ _ | refine blk_drew ?_ | refine blk_alloc ?_ _));exact BK253.out)) : gb253 ≠ gb254));have n6_ := Aside0.mk ((by rw [hg];exact Nat.ne_of_gt (blk_lt (g := gb253) (o := .cells #[.int .i64 a0_0,.int .i64 a0_1,.int .i64 a0_2,.int .i64 a0_3,.int .i64 a0_4,.slice A0_5 l0_5.length c0_5] 27 (0,0)) (by (with_reducible repeat (first | refine blk_drewN ?_ _ | refine blk_drew ?_ | refine blk_alloc ?_ _));exact BK253.out)) : gb254 ≠ gb253));clear BK253;clear HB;have BK253 := n0_;have HB := n1_;have BK254 := n2_;have GW254 := n3_;have GE254 := n4_;have NB253_254 := n5_;have NB254_253 := n6_;clear n0_ n1_ n2_ n3_ n4_ n5_ n6_;clear hb hbox hg;have hnb9 := NB253_254.out;have hnc9 := NB254_253.out;have hcz10_0 : w8.cell? ⟨gb253,0,none⟩ = some (.int .i64 a0_0) := (blk_cell BK253.out 0).trans rfl;have hcz10_1 : w8.cell? ⟨gb253,1,none⟩ = some (.int .i64 a0_1) := (blk_cell BK253.out 1).trans rfl;have hcz10_2 : w8.cell? ⟨gb253,2,none⟩ = some (.int .i64 a0_2) := (blk_cell BK253.out 2).trans rfl;have hcz10_3 : w8.cell? ⟨gb253,3,none⟩ = some (.int .i64 a0_3) := (blk_cell BK253.out 3).trans rfl;have hcz10_4 : w8.cell? ⟨gb253,4,none⟩ = some (.int .i64 a0_4) := (blk_cell BK253.out 4).trans rfl;have hcz10_5 : w8.cell? ⟨gb253,5,none⟩ = some (.slice A0_5 l0_5.length c0_5) := (blk_cell BK253.out 5).trans rfl;have hfz10_0 := blk_frozen BK253.out 0;have hfz10_1 := blk_frozen BK253.out 1;have hfz10_2 := blk_frozen BK253.out 2;have hfz10_3 := blk_frozen BK253.out 3;have hfz10_4 := blk_frozen BK253.out 4;have hfz10_5 := blk_frozen BK253.out 5) | ((with_reducible refine gate_callee (f := 14) rfl ?_);refine goesL_ (some 10) rfl rfl Try.func14 (by kernel_rfl) rfl #[.agg #[.int .i64 a0_0,.int .i64 a0_1,.int .i64 a0_2,.int .i64 a0_3,.int .i64 a0_4,.slice A0_5 l0_5.length c0_5]] rfl (by (try simp only [List.map_toArray,List.map_cons,List.map_nil]);first | done | rfl | (simp only [List.length_drop,List.length_take];rfl)) ?_;(with_reducible refine (layout_Check.calls a0_0 a0_1 a0_2 a0_3 a0_4 _ _ l0_5 t255 _ ?side1 ?side2 A3.out).mono ?_);(case side1 => repeat (first | exact (Kd.C_below HR0_5.out HB.out) | (with_reducible refine Kd.C_alloc ?_ _) | (with_reducible refine Kd.C_drewN ?_ _) | (with_reducible refine Kd.C_drew ?_)));(case side2 => exact HC0_5.out);rintro e w11 ⟨rfl,hb⟩;refine ⟨_,rfl,?_⟩;have n0_ := Aside0.mk (blk_below (g := gb253) (o := .cells #[.int .i64 a0_0,.int .i64 a0_1,.int .i64 a0_2,.int .i64 a0_3,.int .i64 a0_4,.slice A0_5 l0_5.length c0_5] 27 (0,0)) (by (with_reducible repeat (first | refine blk_drewN ?_ _ | refine blk_drew ?_ | refine blk_alloc ?_ _));exact BK253.out) hb);have n1_ := Aside0.mk (blk_below (g := gb254) (o := .cells #[.int .u64 a1_0,.slice A1_1 l1_1.length c1_1,.slice A1_2 l1_2.length c1_2] 46 (0,0)) (by (with_reducible repeat (first | refine blk_drewN ?_ _ | refine blk_drew ?_ | refine blk_alloc ?_ _));exact BK254.out) hb);have n2_ := Aside0.mk (below_step (by repeat (first | (with_reducible first | exact HB.out | apply below_alloc | apply pw_below_drewN | apply below_drew1 | refine below_set ?_ GE253.out | refine below_set ?_ GE254.out) | exact HB.out)) hb);clear BK253;clear BK254;clear HB;have BK253 := n0_;have BK254 := n1_;have HB := n2_;clear n0_ n1_ n2_;(try clear hb);(try clear hb2);(try clear hk);(try clear hi);have hcz12_0 : w11.cell? ⟨gb253,0,none⟩ = some (.int .i64 a0_0) := (blk_cell BK253.out 0).trans rfl;have hcz12_1 : w11.cell? ⟨gb253,1,none⟩ = some (.int .i64 a0_1) := (blk_cell BK253.out 1).trans rfl;have hcz12_2 : w11.cell? ⟨gb253,2,none⟩ = some (.int .i64 a0_2) := (blk_cell BK253.out 2).trans rfl;have hcz12_3 : w11.cell? ⟨gb253,3,none⟩ = some (.int .i64 a0_3) := (blk_cell BK253.out 3).trans rfl;have hcz12_4 : w11.cell? ⟨gb253,4,none⟩ = some (.int .i64 a0_4) := (blk_cell BK253.out 4).trans rfl;have hcz12_5 : w11.cell? ⟨gb253,5,none⟩ = some (.slice A0_5 l0_5.length c0_5) := (blk_cell BK253.out 5).trans rfl;have hfz12_0 := blk_frozen BK253.out 0;have hfz12_1 := blk_frozen BK253.out 1;have hfz12_2 := blk_frozen BK253.out 2;have hfz12_3 := blk_frozen BK253.out 3;have hfz12_4 := blk_frozen BK253.out 4;have hfz12_5 := blk_frozen BK253.out 5;have hcz13_0 : w11.cell? ⟨gb254,0,none⟩ = some (.int .u64 a1_0) := (blk_cell BK254.out 0).trans rfl;have hcz13_1 : w11.cell? ⟨gb254,1,none⟩ = some (.slice A1_1 l1_1.length c1_1) := (blk_cell BK254.out 1).trans rfl;have hcz13_2 : w11.cell? ⟨gb254,2,none⟩ = some (.slice A1_2 l1_2.length c1_2) := (blk_cell BK254.out 2).trans rfl;have hfz13_0 := blk_frozen BK254.out 0;have hfz13_1 := blk_frozen BK254.out 1;have hfz13_2 := blk_frozen BK254.out 2) | ((with_reducible refine gate_callee (f := 66) rfl ?_);refine goesL_ (some 17) rfl rfl Try.func66 (by kernel_rfl) rfl #[.agg #[.int .i64 a0_0,.int .i64 a0_1,.int .i64 a0_2,.int .i64 a0_3,.int .i64 a0_4,.slice A0_5 l0_5.length c0_5],.agg #[.int .u64 a1_0,.slice A1_1 l1_1.length c1_1,.slice A1_2 l1_2.length c1_2]] rfl (by (try simp only [List.map_toArray,List.map_cons,List.map_nil]);first | done | rfl | (simp only [List.length_drop,List.length_take];rfl)) ?_;(with_reducible refine (value_fit.calls k a0_0 a0_1 a0_2 a0_3 a0_4 _ _ l0_5 a1_0 _ _ l1_1 _ _ l1_2 t256 t257 _ ?side1 ?side2 ?side3 ?side4 ?side5 ?side6 A5.out).mono ?_);(case side1 => repeat (first | exact (Kd.C_below HR0_5.out HB.out) | (with_reducible refine Kd.C_alloc ?_ _) | (with_reducible refine Kd.C_drewN ?_ _) | (with_reducible refine Kd.C_drew ?_)));(case side2 => exact HC0_5.out);(case side3 => repeat (first | exact (Kd.C_below HR1_1.out HB.out) | (with_reducible refine Kd.C_alloc ?_ _) | (with_reducible refine Kd.C_drewN ?_ _) | (with_reducible refine Kd.C_drew ?_)));(case side4 => exact HC1_1.out);(case side5 => repeat (first | exact (Kd.C_below HR1_2.out HB.out) | (with_reducible refine Kd.C_alloc ?_ _) | (with_reducible refine Kd.C_drewN ?_ _) | (with_reducible refine Kd.C_drew ?_)));(case side6 => exact HC1_2.out);rintro e w14 ⟨rfl,hb⟩;refine ⟨_,rfl,?_⟩;have n0_ := Aside0.mk (blk_below (g := gb253) (o := .cells #[.int .i64 a0_0,.int .i64 a0_1,.int .i64 a0_2,.int .i64 a0_3,.int .i64 a0_4,.slice A0_5 l0_5.length c0_5] 27 (0,0)) (by (with_reducible repeat (first | refine blk_drewN ?_ _ | refine blk_drew ?_ | refine blk_alloc ?_ _));exact BK253.out) hb);have n1_ := Aside0.mk (blk_below (g := gb254) (o := .cells #[.int .u64 a1_0,.slice A1_1 l1_1.length c1_1,.slice A1_2 l1_2.length c1_2] 46 (0,0)) (by (with_reducible repeat (first | refine blk_drewN ?_ _ | refine blk_drew ?_ | refine blk_alloc ?_ _));exact BK254.out) hb);have n2_ := Aside0.mk (below_step (by repeat (first | (with_reducible first | exact HB.out | apply below_alloc | apply pw_below_drewN | apply below_drew1 | refine below_set ?_ GE253.out | refine below_set ?_ GE254.out) | exact HB.out)) hb);clear BK253;clear BK254;clear HB;have BK253 := n0_;have BK254 := n1_;have HB := n2_;clear n0_ n1_ n2_;(try clear hb);(try clear hb2);(try clear hk);(try clear hi)))
   go_ret2
   exact ⟨by first | rfl | (simp [errW_none,errW_some] <;> rfl) | (simp [*,errW_none,errW_some] <;> rfl),by repeat (first | (with_reducible first | exact HB.out | apply below_alloc | apply pw_below_drewN | apply below_drew1 | refine below_set ?_ GE253.out | refine below_set ?_ GE254.out) | exact HB.out)⟩
  ·rw [if_neg c6] at H
   have c6b0 : (t257 == 0) = false := beq_eq_false_iff_ne.mpr c6
   have c6b1 : (t257 != 0) = true := bne_iff_ne.mpr c6
   simp only [Option.some.injEq,Prod.mk.injEq] at H
   obtain ⟨rfl,rfl⟩ := H
   go_enter Try.func56,Try.ntmps56
   go_wp2_with (first | ((with_reducible refine gate_dst (N := 2) rfl ?_);refine box_event ?hg (N := 2) ?hd (cs := #[.int .i64 a0_0,.int .i64 a0_1,.int .i64 a0_2,.int .i64 a0_3,.int .i64 a0_4,.slice A0_5 l0_5.length c0_5]) (t := 27) ?hr ?_;(case hd => rfl);(case hg => rfl);(case hr => first | (go_simp;done) | (go_simp;rfl));intro gb253 hg w15 hbox hb;have n0_ := Aside0.mk (below_step (by repeat (first | (with_reducible first | exact HB.out | apply below_alloc | apply pw_below_drewN | apply below_drew1) | exact HB.out)) hb);have n1_ := Aside0.mk (hbox);have n2_ := Aside0.mk ((by rw [hg];exact (below_size (by repeat (first | (with_reducible first | exact HB.out | apply below_alloc | apply pw_below_drewN | apply below_drew1) | exact HB.out))) : w.heap.size ≤ gb253));have n3_ := Aside0.mk ((by rw [hg];exact (below_size (by repeat (first | (with_reducible first | exact HB.out | apply below_alloc | apply pw_below_drewN | apply below_drew1) | exact HB.out))) : w.heap.size ≤ gb253));clear HB;have HB := n0_;have BK253 := n1_;have GW253 := n2_;have GE253 := n3_;clear n0_ n1_ n2_ n3_;clear hb hbox hg) | ((with_reducible refine gate_dst (N := 3) rfl ?_);refine box_event ?hg (N := 3) ?hd (cs := #[.int .u64 a1_0,.slice A1_1 l1_1.length c1_1,.slice A1_2 l1_2.length c1_2]) (t := 46) ?hr ?_;(case hd => rfl);(case hg => rfl);(case hr => first | (go_simp;done) | (go_simp;rfl));intro gb254 hg w16 hbox hb;have n0_ := Aside0.mk (blk_below (g := gb253) (o := .cells #[.int .i64 a0_0,.int .i64 a0_1,.int .i64 a0_2,.int .i64 a0_3,.int .i64 a0_4,.slice A0_5 l0_5.length c0_5] 27 (0,0)) (by (with_reducible repeat (first | refine blk_drewN ?_ _ | refine blk_drew ?_ | refine blk_alloc ?_ _));exact BK253.out) hb);have n1_ := Aside0.mk (below_step (by repeat (first | (with_reducible first | exact HB.out | apply below_alloc | apply pw_below_drewN | apply below_drew1 | refine below_set ?_ GE253.out) | exact HB.out)) hb);have n2_ := Aside0.mk (hbox);have n3_ := Aside0.mk ((by rw [hg];exact (below_size (by repeat (first | (with_reducible first | exact HB.out | apply below_alloc | apply pw_below_drewN | apply below_drew1 | refine below_set ?_ GE253.out) | exact HB.out))) : w.heap.size ≤ gb254));have n4_ := Aside0.mk ((by rw [hg];exact (below_size (by repeat (first | (with_reducible first | exact HB.out | apply below_alloc | apply pw_below_drewN | apply below_drew1 | refine below_set ?_ GE253.out) | exact HB.out))) : w.heap.size ≤ gb254));have n5_ := Aside0.mk ((by rw [hg];exact Nat.ne_of_lt (blk_lt (g := gb253) (o := .cells #[.int .i64 a0_0,.int .i64 a0_1,.int .i64 a0_2,.int .i64 a0_3,.int .i64 a0_4,.slice A0_5 l0_5.length c0_5] 27 (0,0)) (by (with_reducible repeat (first | refine blk_drewN ?_ _ | refine blk_drew ?_ | refine blk_alloc ?_ _));exact BK253.out)) : gb253 ≠ gb254));have n6_ := Aside0.mk ((by rw [hg];exact Nat.ne_of_gt (blk_lt (g := gb253) (o := .cells #[.int .i64 a0_0,.int .i64 a0_1,.int .i64 a0_2,.int .i64 a0_3,.int .i64 a0_4,.slice A0_5 l0_5.length c0_5] 27 (0,0)) (by (with_reducible repeat (first | refine blk_drewN ?_ _ | refine blk_drew ?_ | refine blk_alloc ?_ _));exact BK253.out)) : gb254 ≠ gb253));clear BK253;clear HB;have BK253 := n0_;have HB := n1_;have BK254 := n2_;have GW254 := n3_;have GE254 := n4_;have NB253_254 := n5_;have NB254_253 := n6_;clear n0_ n1_ n2_ n3_ n4_ n5_ n6_;clear hb hbox hg;have hnb17 := NB253_254.out;have hnc17 := NB254_253.out;have hcz18_0 : w16.cell? ⟨gb253,0,none⟩ = some (.int .i64 a0_0) := (blk_cell BK253.out 0).trans rfl;have hcz18_1 : w16.cell? ⟨gb253,1,none⟩ = some (.int .i64 a0_1) := (blk_cell BK253.out 1).trans rfl;have hcz18_2 : w16.cell? ⟨gb253,2,none⟩ = some (.int .i64 a0_2) := (blk_cell BK253.out 2).trans rfl;have hcz18_3 : w16.cell? ⟨gb253,3,none⟩ = some (.int .i64 a0_3) := (blk_cell BK253.out 3).trans rfl;have hcz18_4 : w16.cell? ⟨gb253,4,none⟩ = some (.int .i64 a0_4) := (blk_cell BK253.out 4).trans rfl;have hcz18_5 : w16.cell? ⟨gb253,5,none⟩ = some (.slice A0_5 l0_5.length c0_5) := (blk_cell BK253.out 5).trans rfl;have hfz18_0 := blk_frozen BK253.out 0;have hfz18_1 := blk_frozen BK253.out 1;have hfz18_2 := blk_frozen BK253.out 2;have hfz18_3 := blk_frozen BK253.out 3;have hfz18_4 := blk_frozen BK253.out 4;have hfz18_5 := blk_frozen BK253.out 5) | ((with_reducible refine gate_callee (f := 14) rfl ?_);refine goesL_ (some 10) rfl rfl Try.func14 (by kernel_rfl) rfl #[.agg #[.int .i64 a0_0,.int .i64 a0_1,.int .i64 a0_2,.int .i64 a0_3,.int .i64 a0_4,.slice A0_5 l0_5.length c0_5]] rfl (by (try simp only [List.map_toArray,List.map_cons,List.map_nil]);first | done | rfl | (simp only [List.length_drop,List.length_take];rfl)) ?_;(with_reducible refine (layout_Check.calls a0_0 a0_1 a0_2 a0_3 a0_4 _ _ l0_5 t255 _ ?side1 ?side2 A3.out).mono ?_);(case side1 => repeat (first | exact (Kd.C_below HR0_5.out HB.out) | (with_reducible refine Kd.C_alloc ?_ _) | (with_reducible refine Kd.C_drewN ?_ _) | (with_reducible refine Kd.C_drew ?_)));(case side2 => exact HC0_5.out);rintro e w19 ⟨rfl,hb⟩;refine ⟨_,rfl,?_⟩;have n0_ := Aside0.mk (blk_below (g := gb253) (o := .cells #[.int .i64 a0_0,.int .i64 a0_1,.int .i64 a0_2,.int .i64 a0_3,.int .i64 a0_4,.slice A0_5 l0_5.length c0_5] 27 (0,0)) (by (with_reducible repeat (first | refine blk_drewN ?_ _ | refine blk_drew ?_ | refine blk_alloc ?_ _));exact BK253.out) hb);have n1_ := Aside0.mk (blk_below (g := gb254) (o := .cells #[.int .u64 a1_0,.slice A1_1 l1_1.length c1_1,.slice A1_2 l1_2.length c1_2] 46 (0,0)) (by (with_reducible repeat (first | refine blk_drewN ?_ _ | refine blk_drew ?_ | refine blk_alloc ?_ _));exact BK254.out) hb);have n2_ := Aside0.mk (below_step (by repeat (first | (with_reducible first | exact HB.out | apply below_alloc | apply pw_below_drewN | apply below_drew1 | refine below_set ?_ GE253.out | refine below_set ?_ GE254.out) | exact HB.out)) hb);clear BK253;clear BK254;clear HB;have BK253 := n0_;have BK254 := n1_;have HB := n2_;clear n0_ n1_ n2_;(try clear hb);(try clear hb2);(try clear hk);(try clear hi);have hcz20_0 : w19.cell? ⟨gb253,0,none⟩ = some (.int .i64 a0_0) := (blk_cell BK253.out 0).trans rfl;have hcz20_1 : w19.cell? ⟨gb253,1,none⟩ = some (.int .i64 a0_1) := (blk_cell BK253.out 1).trans rfl;have hcz20_2 : w19.cell? ⟨gb253,2,none⟩ = some (.int .i64 a0_2) := (blk_cell BK253.out 2).trans rfl;have hcz20_3 : w19.cell? ⟨gb253,3,none⟩ = some (.int .i64 a0_3) := (blk_cell BK253.out 3).trans rfl;have hcz20_4 : w19.cell? ⟨gb253,4,none⟩ = some (.int .i64 a0_4) := (blk_cell BK253.out 4).trans rfl;have hcz20_5 : w19.cell? ⟨gb253,5,none⟩ = some (.slice A0_5 l0_5.length c0_5) := (blk_cell BK253.out 5).trans rfl;have hfz20_0 := blk_frozen BK253.out 0;have hfz20_1 := blk_frozen BK253.out 1;have hfz20_2 := blk_frozen BK253.out 2;have hfz20_3 := blk_frozen BK253.out 3;have hfz20_4 := blk_frozen BK253.out 4;have hfz20_5 := blk_frozen BK253.out 5;have hcz21_0 : w19.cell? ⟨gb254,0,none⟩ = some (.int .u64 a1_0) := (blk_cell BK254.out 0).trans rfl;have hcz21_1 : w19.cell? ⟨gb254,1,none⟩ = some (.slice A1_1 l1_1.length c1_1) := (blk_cell BK254.out 1).trans rfl;have hcz21_2 : w19.cell? ⟨gb254,2,none⟩ = some (.slice A1_2 l1_2.length c1_2) := (blk_cell BK254.out 2).trans rfl;have hfz21_0 := blk_frozen BK254.out 0;have hfz21_1 := blk_frozen BK254.out 1;have hfz21_2 := blk_frozen BK254.out 2) | ((with_reducible refine gate_callee (f := 66) rfl ?_);refine goesL_ (some 17) rfl rfl Try.func66 (by kernel_rfl) rfl #[.agg #[.int .i64 a0_0,.int .i64 a0_1,.int .i64 a0_2,.int .i64 a0_3,.int .i64 a0_4,.slice A0_5 l0_5.length c0_5],.agg #[.int .u64 a1_0,.slice A1_1 l1_1.length c1_1,.slice A1_2 l1_2.length c1_2]] rfl (by (try simp only [List.map_toArray,List.map_cons,List.map_nil]);first | done | rfl | (simp only [List.length_drop,List.length_take];rfl)) ?_;(with_reducible refine (value_fit.calls k a0_0 a0_1 a0_2 a0_3 a0_4 _ _ l0_5 a1_0 _ _ l1_1 _ _ l1_2 t256 t257 _ ?side1 ?side2 ?side3 ?side4 ?side5 ?side6 A5.out).mono ?_);(case side1 => repeat (first | exact (Kd.C_below HR0_5.out HB.out) | (with_reducible refine Kd.C_alloc ?_ _) | (with_reducible refine Kd.C_drewN ?_ _) | (with_reducible refine Kd.C_drew ?_)));(case side2 => exact HC0_5.out);(case side3 => repeat (first | exact (Kd.C_below HR1_1.out HB.out) | (with_reducible refine Kd.C_alloc ?_ _) | (with_reducible refine Kd.C_drewN ?_ _) | (with_reducible refine Kd.C_drew ?_)));(case side4 => exact HC1_1.out);(case side5 => repeat (first | exact (Kd.C_below HR1_2.out HB.out) | (with_reducible refine Kd.C_alloc ?_ _) | (with_reducible refine Kd.C_drewN ?_ _) | (with_reducible refine Kd.C_drew ?_)));(case side6 => exact HC1_2.out);rintro e w22 ⟨rfl,hb⟩;refine ⟨_,rfl,?_⟩;have n0_ := Aside0.mk (blk_below (g := gb253) (o := .cells #[.int .i64 a0_0,.int .i64 a0_1,.int .i64 a0_2,.int .i64 a0_3,.int .i64 a0_4,.slice A0_5 l0_5.length c0_5] 27 (0,0)) (by (with_reducible repeat (first | refine blk_drewN ?_ _ | refine blk_drew ?_ | refine blk_alloc ?_ _));exact BK253.out) hb);have n1_ := Aside0.mk (blk_below (g := gb254) (o := .cells #[.int .u64 a1_0,.slice A1_1 l1_1.length c1_1,.slice A1_2 l1_2.length c1_2] 46 (0,0)) (by (with_reducible repeat (first | refine blk_drewN ?_ _ | refine blk_drew ?_ | refine blk_alloc ?_ _));exact BK254.out) hb);have n2_ := Aside0.mk (below_step (by repeat (first | (with_reducible first | exact HB.out | apply below_alloc | apply pw_below_drewN | apply below_drew1 | refine below_set ?_ GE253.out | refine below_set ?_ GE254.out) | exact HB.out)) hb);clear BK253;clear BK254;clear HB;have BK253 := n0_;have BK254 := n1_;have HB := n2_;clear n0_ n1_ n2_;(try clear hb);(try clear hb2);(try clear hk);(try clear hi)))
   go_ret2
   exact ⟨by first | rfl | (simp [errW_none,errW_some] <;> rfl) | (simp [*,errW_none,errW_some] <;> rfl),by repeat (first | (with_reducible first | exact HB.out | apply below_alloc | apply pw_below_drewN | apply below_drew1 | refine below_set ?_ GE253.out | refine below_set ?_ GE254.out) | exact HB.out)⟩
 ·rw [if_neg c4] at H
  have c4b0 : (t255 == 0) = false := beq_eq_false_iff_ne.mpr c4
  have c4b1 : (t255 != 0) = true := bne_iff_ne.mpr c4
  simp only [Option.some.injEq,Prod.mk.injEq] at H
  obtain ⟨rfl,rfl⟩ := H
  go_enter Try.func56,Try.ntmps56
  go_wp2_with (first | ((with_reducible refine gate_dst (N := 2) rfl ?_);refine box_event ?hg (N := 2) ?hd (cs := #[.int .i64 a0_0,.int .i64 a0_1,.int .i64 a0_2,.int .i64 a0_3,.int .i64 a0_4,.slice A0_5 l0_5.length c0_5]) (t := 27) ?hr ?_;(case hd => rfl);(case hg => rfl);(case hr => first | (go_simp;done) | (go_simp;rfl));intro gb253 hg w23 hbox hb;have n0_ := Aside0.mk (below_step (by repeat (first | (with_reducible first | exact HB.out | apply below_alloc | apply pw_below_drewN | apply below_drew1) | exact HB.out)) hb);have n1_ := Aside0.mk (hbox);have n2_ := Aside0.mk ((by rw [hg];exact (below_size (by repeat (first | (with_reducible first | exact HB.out | apply below_alloc | apply pw_below_drewN | apply below_drew1) | exact HB.out))) : w.heap.size ≤ gb253));have n3_ := Aside0.mk ((by rw [hg];exact (below_size (by repeat (first | (with_reducible first | exact HB.out | apply below_alloc | apply pw_below_drewN | apply below_drew1) | exact HB.out))) : w.heap.size ≤ gb253));clear HB;have HB := n0_;have BK253 := n1_;have GW253 := n2_;have GE253 := n3_;clear n0_ n1_ n2_ n3_;clear hb hbox hg) | ((with_reducible refine gate_dst (N := 3) rfl ?_);refine box_event ?hg (N := 3) ?hd (cs := #[.int .u64 a1_0,.slice A1_1 l1_1.length c1_1,.slice A1_2 l1_2.length c1_2]) (t := 46) ?hr ?_;(case hd => rfl);(case hg => rfl);(case hr => first | (go_simp;done) | (go_simp;rfl));intro gb254 hg w24 hbox hb;have n0_ := Aside0.mk (blk_below (g := gb253) (o := .cells #[.int .i64 a0_0,.int .i64 a0_1,.int .i64 a0_2,.int .i64 a0_3,.int .i64 a0_4,.slice A0_5 l0_5.length c0_5] 27 (0,0)) (by (with_reducible repeat (first | refine blk_drewN ?_ _ | refine blk_drew ?_ | refine blk_alloc ?_ _));exact BK253.out) hb);have n1_ := Aside0.mk (below_step (by repeat (first | (with_reducible first | exact HB.out | apply below_alloc | apply pw_below_drewN | apply below_drew1 | refine below_set ?_ GE253.out) | exact HB.out)) hb);have n2_ := Aside0.mk (hbox);have n3_ := Aside0.mk ((by rw [hg];exact (below_size (by repeat (first | (with_reducible first | exact HB.out | apply below_alloc | apply pw_below_drewN | apply below_drew1 | refine below_set ?_ GE253.out) | exact HB.out))) : w.heap.size ≤ gb254));have n4_ := Aside0.mk ((by rw [hg];exact (below_size (by repeat (first | (with_reducible first | exact HB.out | apply below_alloc | apply pw_below_drewN | apply below_drew1 | refine below_set ?_ GE253.out) | exact HB.out))) : w.heap.size ≤ gb254));have n5_ := Aside0.mk ((by rw [hg];exact Nat.ne_of_lt (blk_lt (g := gb253) (o := .cells #[.int .i64 a0_0,.int .i64 a0_1,.int .i64 a0_2,.int .i64 a0_3,.int .i64 a0_4,.slice A0_5 l0_5.length c0_5] 27 (0,0)) (by (with_reducible repeat (first | refine blk_drewN ?_ _ | refine blk_drew ?_ | refine blk_alloc ?_ _));exact BK253.out)) : gb253 ≠ gb254));have n6_ := Aside0.mk ((by rw [hg];exact Nat.ne_of_gt (blk_lt (g := gb253) (o := .cells #[.int .i64 a0_0,.int .i64 a0_1,.int .i64 a0_2,.int .i64 a0_3,.int .i64 a0_4,.slice A0_5 l0_5.length c0_5] 27 (0,0)) (by (with_reducible repeat (first | refine blk_drewN ?_ _ | refine blk_drew ?_ | refine blk_alloc ?_ _));exact BK253.out)) : gb254 ≠ gb253));clear BK253;clear HB;have BK253 := n0_;have HB := n1_;have BK254 := n2_;have GW254 := n3_;have GE254 := n4_;have NB253_254 := n5_;have NB254_253 := n6_;clear n0_ n1_ n2_ n3_ n4_ n5_ n6_;clear hb hbox hg;have hnb25 := NB253_254.out;have hnc25 := NB254_253.out;have hcz26_0 : w24.cell? ⟨gb253,0,none⟩ = some (.int .i64 a0_0) := (blk_cell BK253.out 0).trans rfl;have hcz26_1 : w24.cell? ⟨gb253,1,none⟩ = some (.int .i64 a0_1) := (blk_cell BK253.out 1).trans rfl;have hcz26_2 : w24.cell? ⟨gb253,2,none⟩ = some (.int .i64 a0_2) := (blk_cell BK253.out 2).trans rfl;have hcz26_3 : w24.cell? ⟨gb253,3,none⟩ = some (.int .i64 a0_3) := (blk_cell BK253.out 3).trans rfl;have hcz26_4 : w24.cell? ⟨gb253,4,none⟩ = some (.int .i64 a0_4) := (blk_cell BK253.out 4).trans rfl;have hcz26_5 : w24.cell? ⟨gb253,5,none⟩ = some (.slice A0_5 l0_5.length c0_5) := (blk_cell BK253.out 5).trans rfl;have hfz26_0 := blk_frozen BK253.out 0;have hfz26_1 := blk_frozen BK253.out 1;have hfz26_2 := blk_frozen BK253.out 2;have hfz26_3 := blk_frozen BK253.out 3;have hfz26_4 := blk_frozen BK253.out 4;have hfz26_5 := blk_frozen BK253.out 5) | ((with_reducible refine gate_callee (f := 14) rfl ?_);refine goesL_ (some 10) rfl rfl Try.func14 (by kernel_rfl) rfl #[.agg #[.int .i64 a0_0,.int .i64 a0_1,.int .i64 a0_2,.int .i64 a0_3,.int .i64 a0_4,.slice A0_5 l0_5.length c0_5]] rfl (by (try simp only [List.map_toArray,List.map_cons,List.map_nil]);first | done | rfl | (simp only [List.length_drop,List.length_take];rfl)) ?_;(with_reducible refine (layout_Check.calls a0_0 a0_1 a0_2 a0_3 a0_4 _ _ l0_5 t255 _ ?side1 ?side2 A3.out).mono ?_);(case side1 => repeat (first | exact (Kd.C_below HR0_5.out HB.out) | (with_reducible refine Kd.C_alloc ?_ _) | (with_reducible refine Kd.C_drewN ?_ _) | (with_reducible refine Kd.C_drew ?_)));(case side2 => exact HC0_5.out);rintro e w27 ⟨rfl,hb⟩;refine ⟨_,rfl,?_⟩;have n0_ := Aside0.mk (blk_below (g := gb253) (o := .cells #[.int .i64 a0_0,.int .i64 a0_1,.int .i64 a0_2,.int .i64 a0_3,.int .i64 a0_4,.slice A0_5 l0_5.length c0_5] 27 (0,0)) (by (with_reducible repeat (first | refine blk_drewN ?_ _ | refine blk_drew ?_ | refine blk_alloc ?_ _));exact BK253.out) hb);have n1_ := Aside0.mk (blk_below (g := gb254) (o := .cells #[.int .u64 a1_0,.slice A1_1 l1_1.length c1_1,.slice A1_2 l1_2.length c1_2] 46 (0,0)) (by (with_reducible repeat (first | refine blk_drewN ?_ _ | refine blk_drew ?_ | refine blk_alloc ?_ _));exact BK254.out) hb);have n2_ := Aside0.mk (below_step (by repeat (first | (with_reducible first | exact HB.out | apply below_alloc | apply pw_below_drewN | apply below_drew1 | refine below_set ?_ GE253.out | refine below_set ?_ GE254.out) | exact HB.out)) hb);clear BK253;clear BK254;clear HB;have BK253 := n0_;have BK254 := n1_;have HB := n2_;clear n0_ n1_ n2_;(try clear hb);(try clear hb2);(try clear hk);(try clear hi)))
  go_ret2
  exact ⟨by first | rfl | (simp [errW_none,errW_some] <;> rfl) | (simp [*,errW_none,errW_some] <;> rfl),by repeat (first | (with_reducible first | exact HB.out | apply below_alloc | apply pw_below_drewN | apply below_drew1 | refine below_set ?_ GE253.out | refine below_set ?_ GE254.out) | exact HB.out)⟩

end Go.Proofs.Ytfcghajnnllmhaa.QP

namespace Go.Proofs.Ytfcghajnnllmhaa.QP
open Go.RowKit Go.Proofs.YtfcghajnnllmhaaW.PrintWords Go.Proofs.YtfcghajnnllmhaaW.PrintLast Go.Proofs.YtfcghajnnllmhaaW.PrintMore
attribute [local go_sem] max2_int min2_int max_two min_two max_three min_three max_four min_four   -- for this text's walks alone
set_option linter.unusedVariables false
set_option linter.unusedSimpArgs false

/-! ### value_Fits: function 33 -/
def value_Fits.f (k : Nat) (a0_0 : Int) (a0_1 : Int) (a0_2 : Int) (a0_3 : Int) (a0_4 : Int) (l0_5 : List (S27)) (a1_0 : Int) (l1_1 : List Int) (l1_2 : List (S46)) : Option (Int) := (value_size.f k a0_0 a0_1 a0_2 a0_3 a0_4 l0_5 a1_0 l1_1 l1_2).bind fun bt264 => (some bt264.2)
theorem value_Fits.mono : ∀ a0 a1 a2 a3 a4 a5 a6 a7 a8 k,LeO (value_Fits.f k a0 a1 a2 a3 a4 a5 a6 a7 a8) (value_Fits.f (k + 1) a0 a1 a2 a3 a4 a5 a6 a7 a8) := by
 intro a0 a1 a2 a3 a4 a5 a6 a7 a8 k
 unfold value_Fits.f
 repeat' first
   | (with_reducible exact value_size.mono _ _ _ _ _ _ _ _ _ _)
   | (with_reducible exact LeO.refl _)
   | (with_reducible exact LeO.none _)
   | (with_reducible refine LeO.ite ?_ ?_)
   | (with_reducible refine LeO.bind ?_ (fun _ => ?_))
   | exact value_size.mono _ _ _ _ _ _ _ _ _ _
   | exact LeO.none _
   | refine LeO.ite ?_ ?_
   | refine LeO.bind ?_ (fun _ => ?_)
set_option maxHeartbeats 8000000 in
set_option maxRecDepth 100000 in
theorem value_Fits.calls (k : Nat) (a0_0 : Int) (a0_1 : Int) (a0_2 : Int) (a0_3 : Int) (a0_4 : Int) (A0_5 : Option Addr) (c0_5 : Nat) (l0_5 : List (S27)) (a1_0 : Int) (A1_1 : Option Addr) (c1_1 : Nat) (l1_1 : List Int) (A1_2 : Option Addr) (c1_2 : Nat) (l1_2 : List (S46)) (r : Int) (w : World) (hr0_5 : Kd.C k27 w A0_5 l0_5.length l0_5) (hc0_5 : l0_5.length ≤ c0_5) (hr1_1 : Kd.C (Kd.int .u8) w A1_1 l1_1.length l1_1) (hc1_1 : l1_1.length ≤ c1_1) (hr1_2 : Kd.C k46 w A1_2 l1_2.length l1_2) (hc1_2 : l1_2.length ≤ c1_2) (h : value_Fits.f k a0_0 a0_1 a0_2 a0_3 a0_4 l0_5 a1_0 l1_1 l1_2 = some r) :
  Calls Try.prog 33 #[.agg #[.int .i64 a0_0,.int .i64 a0_1,.int .i64 a0_2,.int .i64 a0_3,.int .i64 a0_4,.slice A0_5 l0_5.length c0_5],.agg #[.int .u64 a1_0,.slice A1_1 l1_1.length c1_1,.slice A1_2 l1_2.length c1_2]] w fun e w' => e = .returned (.int .i64 r) ∧ Below w.heap.size w w' := by
 have hu27 := Try.underlying27
 have hu46 := Try.underlying46
 have HR0_5 := Aside0.mk hr0_5
 have HC0_5 := Aside0.mk hc0_5
 clear hr0_5 hc0_5
 have HR1_1 := Aside0.mk hr1_1
 have HC1_1 := Aside0.mk hc1_1
 clear hr1_1 hc1_1
 have HR1_2 := Aside0.mk hr1_2
 have HC1_2 := Aside0.mk hc1_2
 clear hr1_2 hc1_2
 have HB := Aside0.mk (Below.refl w.heap.size w)
 have H : ((value_size.f k a0_0 a0_1 a0_2 a0_3 a0_4 l0_5 a1_0 l1_1 l1_2).bind fun bt264 => (some bt264.2)) = some r := h
 clear h
 replace H := Option.bind_eq_some_iff.mp H
 obtain ⟨⟨t264,t265⟩,A30,H⟩ := H
 replace H : (some t265) = some r := H
 have A3 := Aside0.mk A30
 clear A30
 obtain rfl := Option.some.inj H
 go_enter Try.func33,Try.ntmps33
 go_wp2_with (first | ((with_reducible refine gate_dst (N := 2) rfl ?_);refine box_event ?hg (N := 2) ?hd (cs := #[.int .i64 a0_0,.int .i64 a0_1,.int .i64 a0_2,.int .i64 a0_3,.int .i64 a0_4,.slice A0_5 l0_5.length c0_5]) (t := 27) ?hr ?_;(case hd => rfl);(case hg => rfl);(case hr => first | (go_simp;done) | (go_simp;rfl));intro gb262 hg w4 hbox hb;have n0_ := Aside0.mk (below_step (by repeat (first | (with_reducible first | exact HB.out | apply below_alloc | apply pw_below_drewN | apply below_drew1) | exact HB.out)) hb);have n1_ := Aside0.mk (hbox);have n2_ := Aside0.mk ((by rw [hg];exact (below_size (by repeat (first | (with_reducible first | exact HB.out | apply below_alloc | apply pw_below_drewN | apply below_drew1) | exact HB.out))) : w.heap.size ≤ gb262));have n3_ := Aside0.mk ((by rw [hg];exact (below_size (by repeat (first | (with_reducible first | exact HB.out | apply below_alloc | apply pw_below_drewN | apply below_drew1) | exact HB.out))) : w.heap.size ≤ gb262));clear HB;have HB := n0_;have BK262 := n1_;have GW262 := n2_;have GE262 := n3_;clear n0_ n1_ n2_ n3_;clear hb hbox hg) | ((with_reducible refine gate_dst (N := 3) rfl ?_);refine box_event ?hg (N := 3) ?hd (cs := #[.int .u64 a1_0,.slice A1_1 l1_1.length c1_1,.slice A1_2 l1_2.length c1_2]) (t := 46) ?hr ?_;(case hd => rfl);(case hg => rfl);(case hr => first | (go_simp;done) | (go_simp;rfl));intro gb263 hg w5 hbox hb;have n0_ := Aside0.mk (blk_below (g := gb262) (o := .cells #[.int .i64 a0_0,.int .i64 a0_1,.int .i64 a0_2,.int .i64 a0_3,.int .i64 a0_4,.slice A0_5 l0_5.length c0_5] 27 (0,0)) (by (with_reducible repeat (first | refine blk_drewN ?_ _ | refine blk_drew ?_ | refine blk_alloc ?_ _));exact BK262.out) hb);have n1_ := Aside0.mk (below_step (by repeat (first | (with_reducible first | exact HB.out | apply below_alloc | apply pw_below_drewN | apply below_drew1 | refine below_set ?_ GE262.out) | exact HB.out)) hb);have n2_ := Aside0.mk (hbox);have n3_ := Aside0.mk ((by rw [hg];exact (below_size (by repeat (first | (with_reducible first | exact HB.out | apply below_alloc | apply pw_below_drewN | apply below_drew1 | refine below_set ?_ GE262.out) | exact HB.out))) : w.heap.size ≤ gb263));have n4_ := Aside0.mk ((by rw [hg];exact (below_size (by repeat (first | (with_reducible first | exact HB.out | apply below_alloc | apply pw_below_drewN | apply below_drew1 | refine below_set ?_ GE262.out) | exact HB.out))) : w.heap.size ≤ gb263));have n5_ := Aside0.mk ((by rw [hg];exact Nat.ne_of_lt (blk_lt (g := gb262) (o := .cells #[.int .i64 a0_0,.int .i64 a0_1,.int .i64 a0_2,.int .i64 a0_3,.int .i64 a0_4,.slice A0_5 l0_5.length c0_5] 27 (0,0)) (by (with_reducible repeat (first | refine blk_drewN ?_ _ | refine blk_drew ?_ | refine blk_alloc ?_ _));exact BK262.out)) : gb262 ≠ gb263));have n6_ := Aside0.mk ((by rw [hg];exact Nat.ne_of_gt (blk_lt (g := gb262) (o := .cells #[.int .i64 a0_0,.int .i64 a0_1,.int .i64 a0_2,.int .i64 a0_3,.int .i64 a0_4,.slice A0_5 l0_5.length c0_5] 27 (0,0)) (by (with_reducible repeat (first | refine blk_drewN ?_ _ | refine blk_drew ?_ | refine blk_alloc ?_ _));exact BK262.out)) : gb263 ≠ gb262));clear BK262;clear HB;have BK262 := n0_;have HB := n1_;have BK263 := n2_;have GW263 := n3_;have GE263 := n4_;have NB262_263 := n5_;have NB263_262 := n6_;clear n0_ n1_ n2_ n3_ n4_ n5_ n6_;clear hb hbox hg;have hnb6 := NB262_263.out;have hnc6 := NB263_262.out;have hcz7_0 : w5.cell? ⟨gb262,0,none⟩ = some (.int .i64 a0_0) := (blk_cell BK262.out 0).trans rfl;have hcz7_1 : w5.cell? ⟨gb262,1,none⟩ = some (.int .i64 a0_1) := (blk_cell BK262.out 1).trans rfl;have hcz7_2 : w5.cell? ⟨gb262,2,none⟩ = some (.int .i64 a0_2) := (blk_cell BK262.out 2).trans rfl;have hcz7_3 : w5.cell? ⟨gb262,3,none⟩ = some (.int .i64 a0_3) := (blk_cell BK262.out 3).trans rfl;have hcz7_4 : w5.cell? ⟨gb262,4,none⟩ = some (.int .i64 a0_4) := (blk_cell BK262.out 4).trans rfl;have hcz7_5 : w5.cell? ⟨gb262,5,none⟩ = some (.slice A0_5 l0_5.length c0_5) := (blk_cell BK262.out 5).trans rfl;have hfz7_0 := blk_frozen BK262.out 0;have hfz7_1 := blk_frozen BK262.out 1;have hfz7_2 := blk_frozen BK262.out 2;have hfz7_3 := blk_frozen BK262.out 3;have hfz7_4 := blk_frozen BK262.out 4;have hfz7_5 := blk_frozen BK262.out 5;have hcz8_0 : w5.cell? ⟨gb263,0,none⟩ = some (.int .u64 a1_0) := (blk_cell BK263.out 0).trans rfl;have hcz8_1 : w5.cell? ⟨gb263,1,none⟩ = some (.slice A1_1 l1_1.length c1_1) := (blk_cell BK263.out 1).trans rfl;have hcz8_2 : w5.cell? ⟨gb263,2,none⟩ = some (.slice A1_2 l1_2.length c1_2) := (blk_cell BK263.out 2).trans rfl;have hfz8_0 := blk_frozen BK263.out 0;have hfz8_1 := blk_frozen BK263.out 1;have hfz8_2 := blk_frozen BK263.out 2) | ((with_reducible refine gate_callee (f := 56) rfl ?_);refine goesL_ (some 10) rfl rfl Try.func56 (by kernel_rfl) rfl #[.agg #[.int .i64 a0_0,.int .i64 a0_1,.int .i64 a0_2,.int .i64 a0_3,.int .i64 a0_4,.slice A0_5 l0_5.length c0_5],.agg #[.int .u64 a1_0,.slice A1_1 l1_1.length c1_1,.slice A1_2 l1_2.length c1_2]] rfl (by (try simp only [List.map_toArray,List.map_cons,List.map_nil]);first | done | rfl | (simp only [List.length_drop,List.length_take];rfl)) ?_;(with_reducible refine (value_size.calls k a0_0 a0_1 a0_2 a0_3 a0_4 _ _ l0_5 a1_0 _ _ l1_1 _ _ l1_2 t264 t265 _ ?side1 ?side2 ?side3 ?side4 ?side5 ?side6 A3.out).mono ?_);(case side1 => repeat (first | exact (Kd.C_below HR0_5.out HB.out) | (with_reducible refine Kd.C_alloc ?_ _) | (with_reducible refine Kd.C_drewN ?_ _) | (with_reducible refine Kd.C_drew ?_)));(case side2 => exact HC0_5.out);(case side3 => repeat (first | exact (Kd.C_below HR1_1.out HB.out) | (with_reducible refine Kd.C_alloc ?_ _) | (with_reducible refine Kd.C_drewN ?_ _) | (with_reducible refine Kd.C_drew ?_)));(case side4 => exact HC1_1.out);(case side5 => repeat (first | exact (Kd.C_below HR1_2.out HB.out) | (with_reducible refine Kd.C_alloc ?_ _) | (with_reducible refine Kd.C_drewN ?_ _) | (with_reducible refine Kd.C_drew ?_)));(case side6 => exact HC1_2.out);rintro e w9 ⟨rfl,hb⟩;refine ⟨_,rfl,?_⟩;have n0_ := Aside0.mk (blk_below (g := gb262) (o := .cells #[.int .i64 a0_0,.int .i64 a0_1,.int .i64 a0_2,.int .i64 a0_3,.int .i64 a0_4,.slice A0_5 l0_5.length c0_5] 27 (0,0)) (by (with_reducible repeat (first | refine blk_drewN ?_ _ | refine blk_drew ?_ | refine blk_alloc ?_ _));exact BK262.out) hb);have n1_ := Aside0.mk (blk_below (g := gb263) (o := .cells #[.int .u64 a1_0,.slice A1_1 l1_1.length c1_1,.slice A1_2 l1_2.length c1_2] 46 (0,0)) (by (with_reducible repeat (first | refine blk_drewN ?_ _ | refine blk_drew ?_ | refine blk_alloc ?_ _));exact BK263.out) hb);have n2_ := Aside0.mk (below_step (by repeat (first | (with_reducible first | exact HB.out | apply below_alloc | apply pw_below_drewN | apply below_drew1 | refine below_set ?_ GE262.out | refine below_set ?_ GE263.out) | exact HB.out)) hb);clear BK262;clear BK263;clear HB;have BK262 := n0_;have BK263 := n1_;have HB := n2_;clear n0_ n1_ n2_;(try clear hb);(try clear hb2);(try clear hk);(try clear hi)))
 go_ret
 exact ⟨by first | rfl | (simp [errW_none,errW_some] <;> rfl) | (simp [*,errW_none,errW_some] <;> rfl),by repeat (first | (with_reducible first | exact HB.out | apply below_alloc | apply pw_below_drewN | apply below_drew1 | refine below_set ?_ GE262.out | refine below_set ?_ GE263.out) | exact HB.out)⟩

end Go.Proofs.Ytfcghajnnllmhaa.QP

namespace Go.Proofs.Ytfcghajnnllmhaa.QP
open Go.RowKit Go.Proofs.YtfcghajnnllmhaaW.PrintWords Go.Proofs.YtfcghajnnllmhaaW.PrintLast Go.Proofs.YtfcghajnnllmhaaW.PrintMore
attribute [local go_sem] max2_int min2_int max_two min_two max_three min_three max_four min_four   -- for this text's walks alone
set_option linter.unusedVariables false
set_option linter.unusedSimpArgs false

/-! ### value_Size: function 32 -/
def value_Size.f (k : Nat) (a0_0 : Int) (a0_1 : Int) (a0_2 : Int) (a0_3 : Int) (a0_4 : Int) (l0_5 : List (S27)) (a1_0 : Int) (l1_1 : List Int) (l1_2 : List (S46)) : Option (Int) := (value_size.f k a0_0 a0_1 a0_2 a0_3 a0_4 l0_5 a1_0 l1_1 l1_2).bind fun bt260 => (some bt260.1)
theorem value_Size.mono : ∀ a0 a1 a2 a3 a4 a5 a6 a7 a8 k,LeO (value_Size.f k a0 a1 a2 a3 a4 a5 a6 a7 a8) (value_Size.f (k + 1) a0 a1 a2 a3 a4 a5 a6 a7 a8) := by
 intro a0 a1 a2 a3 a4 a5 a6 a7 a8 k
 unfold value_Size.f
 repeat' first
   | (with_reducible exact value_size.mono _ _ _ _ _ _ _ _ _ _)
   | (with_reducible exact LeO.refl _)
   | (with_reducible exact LeO.none _)
   | (with_reducible refine LeO.ite ?_ ?_)
   | (with_reducible refine LeO.bind ?_ (fun _ => ?_))
   | exact value_size.mono _ _ _ _ _ _ _ _ _ _
   | exact LeO.none _
   | refine LeO.ite ?_ ?_
   | refine LeO.bind ?_ (fun _ => ?_)
set_option maxHeartbeats 8000000 in
set_option maxRecDepth 100000 in
theorem value_Size.calls (k : Nat) (a0_0 : Int) (a0_1 : Int) (a0_2 : Int) (a0_3 : Int) (a0_4 : Int) (A0_5 : Option Addr) (c0_5 : Nat) (l0_5 : List (S27)) (a1_0 : Int) (A1_1 : Option Addr) (c1_1 : Nat) (l1_1 : List Int) (A1_2 : Option Addr) (c1_2 : Nat) (l1_2 : List (S46)) (r : Int) (w : World) (hr0_5 : Kd.C k27 w A0_5 l0_5.length l0_5) (hc0_5 : l0_5.length ≤ c0_5) (hr1_1 : Kd.C (Kd.int .u8) w A1_1 l1_1.length l1_1) (hc1_1 : l1_1.length ≤ c1_1) (hr1_2 : Kd.C k46 w A1_2 l1_2.length l1_2) (hc1_2 : l1_2.length ≤ c1_2) (h : value_Size.f k a0_0 a0_1 a0_2 a0_3 a0_4 l0_5 a1_0 l1_1 l1_2 = some r) :
  Calls Try.prog 32 #[.agg #[.int .i64 a0_0,.int .i64 a0_1,.int .i64 a0_2,.int .i64 a0_3,.int .i64 a0_4,.slice A0_5 l0_5.length c0_5],.agg #[.int .u64 a1_0,.slice A1_1 l1_1.length c1_1,.slice A1_2 l1_2.length c1_2]] w fun e w' => e = .returned (.int .i64 r) ∧ Below w.heap.size w w' := by
 have hu27 := Try.underlying27
 have hu46 := Try.underlying46
 have HR0_5 := Aside0.mk hr0_5
 have HC0_5 := Aside0.mk hc0_5
 clear hr0_5 hc0_5
 have HR1_1 := Aside0.mk hr1_1
 have HC1_1 := Aside0.mk hc1_1
 clear hr1_1 hc1_1
 have HR1_2 := Aside0.mk hr1_2
 have HC1_2 := Aside0.mk hc1_2
 clear hr1_2 hc1_2
 have HB := Aside0.mk (Below.refl w.heap.size w)
 have H : ((value_size.f k a0_0 a0_1 a0_2 a0_3 a0_4 l0_5 a1_0 l1_1 l1_2).bind fun bt260 => (some bt260.1)) = some r := h
 clear h
 replace H := Option.bind_eq_some_iff.mp H
 obtain ⟨⟨t260,t261⟩,A30,H⟩ := H
 replace H : (some t260) = some r := H
 have A3 := Aside0.mk A30
 clear A30
 obtain rfl := Option.some.inj H
 go_enter Try.func32,Try.ntmps32
 go_wp2_with (first | ((with_reducible refine gate_dst (N := 2) rfl ?_);refine box_event ?hg (N := 2) ?hd (cs := #[.int .i64 a0_0,.int .i64 a0_1,.int .i64 a0_2,.int .i64 a0_3,.int .i64 a0_4,.slice A0_5 l0_5.length c0_5]) (t := 27) ?hr ?_;(case hd => rfl);(case hg => rfl);(case hr => first | (go_simp;done) | (go_simp;rfl));intro gb258 hg w4 hbox hb;have n0_ := Aside0.mk (below_step (by repeat (first | (with_reducible first | exact HB.out | apply below_alloc | apply pw_below_drewN | apply below_drew1) | exact HB.out)) hb);have n1_ := Aside0.mk (hbox);have n2_ := Aside0.mk ((by rw [hg];exact (below_size (by repeat (first | (with_reducible first | exact HB.out | apply below_alloc | apply pw_below_drewN | apply below_drew1) | exact HB.out))) : w.heap.size ≤ gb258));have n3_ := Aside0.mk ((by rw [hg];exact (below_size (by repeat (first | (with_reducible first | exact HB.out | apply below_alloc | apply pw_below_drewN | apply below_drew1) | exact HB.out))) : w.heap.size ≤ gb258));clear HB;have HB := n0_;have BK258 := n1_;have GW258 := n2_;have GE258 := n3_;clear n0_ n1_ n2_ n3_;clear hb hbox hg) | ((with_reducible refine gate_dst (N := 3) rfl ?_);refine box_event ?hg (N := 3) ?hd (cs := #[.int .u64 a1_0,.slice A1_1 l1_1.length c1_1,.slice A1_2 l1_2.length c1_2]) (t := 46) ?hr ?_;(case hd => rfl);(case hg => rfl);(case hr => first | (go_simp;done) | (go_simp;rfl));intro gb259 hg w5 hbox hb;have n0_ := Aside0.mk (blk_below (g := gb258) (o := .cells #[.int .i64 a0_0,.int .i64 a0_1,.int .i64 a0_2,.int .i64 a0_3,.int .i64 a0_4,.slice A0_5 l0_5.length c0_5] 27 (0,0)) (by (with_reducible repeat (first | refine blk_drewN ?_ _ | refine blk_drew ?_ | refine blk_alloc ?_ _));exact BK258.out) hb);have n1_ := Aside0.mk (below_step (by repeat (first | (with_reducible first | exact HB.out | apply below_alloc | apply pw_below_drewN | apply below_drew1 | refine below_set ?_ GE258.out) | exact HB.out)) hb);have n2_ := Aside0.mk (hbox);have n3_ := Aside0.mk ((by rw [hg];exact (below_size (by repeat (first | (with_reducible first | exact HB.out | apply below_alloc | apply pw_below_drewN | apply below_drew1 | refine below_set ?_ GE258.out) | exact HB.out))) : w.heap.size ≤ gb259));have n4_ := Aside0.mk ((by rw [hg];exact (below_size (by repeat (first | (with_reducible first | exact HB.out | apply below_alloc | apply pw_below_drewN | apply below_drew1 | refine below_set ?_ GE258.out) | exact HB.out))) : w.heap.size ≤ gb259));have n5_ := Aside0.mk ((by rw [hg];exact Nat.ne_of_lt (blk_lt (g := gb258) (o := .cells #[.int .i64 a0_0,.int .i64 a0_1,.int .i64 a0_2,.int .i64 a0_3,.int .i64 a0_4,.slice A0_5 l0_5.length c0_5] 27 (0,0)) (by (with_reducible repeat (first | refine blk_drewN ?_ _ | refine blk_drew ?_ | refine blk_alloc ?_ _));exact BK258.out)) : gb258 ≠ gb259));have n6_ := Aside0.mk ((by rw [hg];exact Nat.ne_of_gt (blk_lt (g := gb258) (o := .cells #[.int .i64 a0_0,.int .i64 a0_1,.int .i64 a0_2,.int .i64 a0_3,.int .i64 a0_4,.slice A0_5 l0_5.length c0_5] 27 (0,0)) (by (with_reducible repeat (first | refine blk_drewN ?_ _ | refine blk_drew ?_ | refine blk_alloc ?_ _));exact BK258.out)) : gb259 ≠ gb258));clear BK258;clear HB;have BK258 := n0_;have HB := n1_;have BK259 := n2_;have GW259 := n3_;have GE259 := n4_;have NB258_259 := n5_;have NB259_258 := n6_;clear n0_ n1_ n2_ n3_ n4_ n5_ n6_;clear hb hbox hg;have hnb6 := NB258_259.out;have hnc6 := NB259_258.out;have hcz7_0 : w5.cell? ⟨gb258,0,none⟩ = some (.int .i64 a0_0) := (blk_cell BK258.out 0).trans rfl;have hcz7_1 : w5.cell? ⟨gb258,1,none⟩ = some (.int .i64 a0_1) := (blk_cell BK258.out 1).trans rfl;have hcz7_2 : w5.cell? ⟨gb258,2,none⟩ = some (.int .i64 a0_2) := (blk_cell BK258.out 2).trans rfl;have hcz7_3 : w5.cell? ⟨gb258,3,none⟩ = some (.int .i64 a0_3) := (blk_cell BK258.out 3).trans rfl;have hcz7_4 : w5.cell? ⟨gb258,4,none⟩ = some (.int .i64 a0_4) := (blk_cell BK258.out 4).trans rfl;have hcz7_5 : w5.cell? ⟨gb258,5,none⟩ = some (.slice A0_5 l0_5.length c0_5) := (blk_cell BK258.out 5).trans rfl;have hfz7_0 := blk_frozen BK258.out 0;have hfz7_1 := blk_frozen BK258.out 1;have hfz7_2 := blk_frozen BK258.out 2;have hfz7_3 := blk_frozen BK258.out 3;have hfz7_4 := blk_frozen BK258.out 4;have hfz7_5 := blk_frozen BK258.out 5;have hcz8_0 : w5.cell? ⟨gb259,0,none⟩ = some (.int .u64 a1_0) := (blk_cell BK259.out 0).trans rfl;have hcz8_1 : w5.cell? ⟨gb259,1,none⟩ = some (.slice A1_1 l1_1.length c1_1) := (blk_cell BK259.out 1).trans rfl;have hcz8_2 : w5.cell? ⟨gb259,2,none⟩ = some (.slice A1_2 l1_2.length c1_2) := (blk_cell BK259.out 2).trans rfl;have hfz8_0 := blk_frozen BK259.out 0;have hfz8_1 := blk_frozen BK259.out 1;have hfz8_2 := blk_frozen BK259.out 2) | ((with_reducible refine gate_callee (f := 56) rfl ?_);refine goesL_ (some 10) rfl rfl Try.func56 (by kernel_rfl) rfl #[.agg #[.int .i64 a0_0,.int .i64 a0_1,.int .i64 a0_2,.int .i64 a0_3,.int .i64 a0_4,.slice A0_5 l0_5.length c0_5],.agg #[.int .u64 a1_0,.slice A1_1 l1_1.length c1_1,.slice A1_2 l1_2.length c1_2]] rfl (by (try simp only [List.map_toArray,List.map_cons,List.map_nil]);first | done | rfl | (simp only [List.length_drop,List.length_take];rfl)) ?_;(with_reducible refine (value_size.calls k a0_0 a0_1 a0_2 a0_3 a0_4 _ _ l0_5 a1_0 _ _ l1_1 _ _ l1_2 t260 t261 _ ?side1 ?side2 ?side3 ?side4 ?side5 ?side6 A3.out).mono ?_);(case side1 => repeat (first | exact (Kd.C_below HR0_5.out HB.out) | (with_reducible refine Kd.C_alloc ?_ _) | (with_reducible refine Kd.C_drewN ?_ _) | (with_reducible refine Kd.C_drew ?_)));(case side2 => exact HC0_5.out);(case side3 => repeat (first | exact (Kd.C_below HR1_1.out HB.out) | (with_reducible refine Kd.C_alloc ?_ _) | (with_reducible refine Kd.C_drewN ?_ _) | (with_reducible refine Kd.C_drew ?_)));(case side4 => exact HC1_1.out);(case side5 => repeat (first | exact (Kd.C_below HR1_2.out HB.out) | (with_reducible refine Kd.C_alloc ?_ _) | (with_reducible refine Kd.C_drewN ?_ _) | (with_reducible refine Kd.C_drew ?_)));(case side6 => exact HC1_2.out);rintro e w9 ⟨rfl,hb⟩;refine ⟨_,rfl,?_⟩;have n0_ := Aside0.mk (blk_below (g := gb258) (o := .cells #[.int .i64 a0_0,.int .i64 a0_1,.int .i64 a0_2,.int .i64 a0_3,.int .i64 a0_4,.slice A0_5 l0_5.length c0_5] 27 (0,0)) (by (with_reducible repeat (first | refine blk_drewN ?_ _ | refine blk_drew ?_ | refine blk_alloc ?_ _));exact BK258.out) hb);have n1_ := Aside0.mk (blk_below (g := gb259) (o := .cells #[.int .u64 a1_0,.slice A1_1 l1_1.length c1_1,.slice A1_2 l1_2.length c1_2] 46 (0,0)) (by (with_reducible repeat (first | refine blk_drewN ?_ _ | refine blk_drew ?_ | refine blk_alloc ?_ _));exact BK259.out) hb);have n2_ := Aside0.mk (below_step (by repeat (first | (with_reducible first | exact HB.out | apply below_alloc | apply pw_below_drewN | apply below_drew1 | refine below_set ?_ GE258.out | refine below_set ?_ GE259.out) | exact HB.out)) hb);clear BK258;clear BK259;clear HB;have BK258 := n0_;have BK259 := n1_;have HB := n2_;clear n0_ n1_ n2_;(try clear hb);(try clear hb2);(try clear hk);(try clear hi)))
 go_ret
 exact ⟨by first | rfl | (simp [errW_none,errW_some] <;> rfl) | (simp [*,errW_none,errW_some] <;> rfl),by repeat (first | (with_reducible first | exact HB.out | apply below_alloc | apply pw_below_drewN | apply below_drew1 | refine below_set ?_ GE258.out | refine below_set ?_ GE259.out) | exact HB.out)⟩

end Go.Proofs.Ytfcghajnnllmhaa.QP

namespace Go.Proofs.Ytfcghajnnllmhaa
open Go.RowKit YtfcghajnnllmhaaW.PrintWords YtfcghajnnllmhaaW.PrintMore

theorem may_f (n lo hi st : Int) (h : st ≠ 0) : QP.value_may.f n lo hi st = some (mayR n lo hi st) := by
 unfold QP.value_may.f mayR
 split
 ·rfl
 ·by_cases h2 : n > hi
  ·simp [h2]
  ·simp only [if_neg h2]
   split <;> rfl
theorem alone_f (k n : Int) (hk : i64B k) (b : List Int) (l : List SV) : QP.value_alone.f k n b l = some (aloneB k n b.length l.length) := by
 unfold QP.value_alone.f
 rw [if_pos ((okI_iff k).2 hk)]
theorem getD_ofF (P : List Fm) (j : Nat) (h : j < P.length) : P.getD j nilF = P[j] := by simp [h]
theorem shr_u64 (x : Int) (s : Nat) (h0 : 0 ≤ x) (hs : s < 8) : shr .u64 x (8 * (s : Int)) = 0 ↔ ¬ (2 : Int) ^ (8 * s) ≤ x := by
 unfold shr
 have e1 : min ((8 * (s : Int)).toNat) IntKind.u64.bits = 8 * s := by
  have : IntKind.u64.bits = 64 := rfl
  rw [this]
  omega
 rw [e1]
 have hp : (0 : Int) < 2 ^ (8 * s) := Int.pow_pos (by omega)
 generalize (2 : Int) ^ (8 * s) = d at hp ⊢
 constructor
 ·intro h hle
  have h1 : 1 ≤ x / d := Int.le_ediv_of_mul_le hp (by omega)
  omega
 ·intro h
  exact Int.ediv_eq_zero_of_lt h0 (by omega)

theorem fit_ev (x : Vt) : ∀ f : Fm,wfF f = true → checkR f = 0 → wfV x = true → Ev (fun k => QP.value_fit.f k f.a.k f.a.s f.a.lo f.a.hi f.a.st (f.l.map ofF) x.a.n (bI x.a.b) (x.l.map ofV)) (fitR f x) := by
 induction x using RT.induct with
 | h a l ih =>
 intro f hwf hck hwx
 obtain ⟨h,P⟩ := f
 obtain ⟨hok,hPl,hPw⟩ := (wfF_mk _ _).1 hwf
 obtain ⟨hn,hbl,hll,hlw⟩ := (wfV_mk _ _).1 hwx
 obtain ⟨hown,hone,h32,hch⟩ := check_ok hck
 rw [fitR_mk]
 simp only [RT.a,RT.l]
 apply Ev.step
 ·intro k
  simp only [QP.value_fit.f]
  rfl
 refine Ev.cb (alone_f h.k a.n hok.k (bI a.b) (l.map ofV)) ?_
 rw [bI_len,List.length_map]
 by_cases hal : aloneB h.k a.n a.b.length l.length = true
 rotate_left
 ·have hal' : aloneB h.k a.n a.b.length l.length = false := by simpa using hal
  exact Ev.eq_ (Ev.in_ hal (Ev.now _)) (if_pos hal').symm
 refine Ev.eq_ ?_ (if_neg (show ¬ aloneB h.k a.n a.b.length l.length = false by simp [hal])).symm
 refine Ev.ip hal ?_
 by_cases k0 : h.k = 0
 ·refine Ev.ip k0 ?_
  have hs := hown.k0 k0
  obtain ⟨s,hse⟩ : ∃ s : Nat,h.s = s := ⟨h.s.toNat,by omega⟩
  have hst : h.s.toNat = s := by omega
  refine Ev.rp k0 ?_
  rw [hst]
  by_cases hs8 : h.s < 8
  ·refine Ev.ip hs8 ?_
   rw [hse,w64 (by omega) (by omega)]
   refine Ev.ip (by omega) ?_
   have hsh := shr_u64 a.n s hn.1 (by omega)
   by_cases hx : (2 : Int) ^ (8 * s) ≤ a.n
   ·refine Ev.rp ⟨by omega,hx⟩ ?_
    exact Ev.in_ (fun e => hsh.1 e hx) (Ev.now _)
   ·refine Ev.rn (fun e => hx e.2) ?_
    exact Ev.ip (hsh.2 hx) (Ev.now _)
  ·refine Ev.rn (fun e => hs8 e.1) ?_
   exact Ev.in_ hs8 (Ev.now _)
 refine Ev.rn k0 ?_
 refine Ev.in_ k0 ?_
 by_cases k1 : h.k = 1
 ·refine Ev.rp k1 ?_
  have hs := hown.k12 (.inl k1)
  exact Ev.ip k1 (Ev.cb (may_f _ _ _ _ (by omega)) (Ev.now _))
 refine Ev.rn k1 ?_
 refine Ev.in_ k1 ?_
 by_cases k4 : h.k = 4
 ·refine Ev.rp k4 ?_
  exact Ev.ip k4 (Ev.cb (may_f _ _ _ _ (by omega)) (Ev.now _))
 refine Ev.rn k4 ?_
 refine Ev.in_ k4 ?_
 by_cases k5 : h.k = 5
 ·refine Ev.rp k5 ?_
  exact Ev.ip k5 (Ev.cb (may_f _ _ _ _ (by omega)) (Ev.now _))
 refine Ev.rn k5 ?_
 refine Ev.in_ k5 ?_
 have hk23 : h.k = 2 ∨ h.k = 3 := by have := hown.k;omega
 have hPc : ∀ y ∈ P,checkR y = 0 := (hch hk23).1
 have key : (h.k = 3 → l.length = P.length) → ∀ (d j : Nat) (q : Int),l.length - j = d → j ≤ l.length → Ev (fun k => QP.value_fit.l0 k q (l.map ofV) (l.length : Int) (j : Int) h.k h.s h.lo h.hi h.st (P.map ofF)) (fitL (.mk h P) q j (l.drop j)) := by
  intro hlen d
  induction d with
  | zero =>
   intro j q hd hj
   apply Ev.step
   ·intro k
    simp only [QP.value_fit.l0]
    rfl
   refine Ev.in_ (by omega) ?_
   rw [List.drop_of_length_le (by omega),fitL]
   simp only [RT.a]
   by_cases k3 : h.k = 3
   ·refine Ev.rp k3 ?_
    exact Ev.ip k3 (Ev.now _)
   ·refine Ev.rn k3 ?_
    have hs := hown.k12 (.inr (by omega))
    exact Ev.in_ k3 (Ev.cb (may_f _ _ _ _ (by omega)) (Ev.now _))
  | succ d ihd =>
   intro j q hd hj
   have hlt : j < l.length := by omega
   have hP0 : 0 < P.length := by
    rcases hk23 with k2 | k3
    ·have := hone k2;omega
    ·have := hlen k3;omega
   have hmod : j % P.length < P.length := Nat.mod_lt _ hP0
   apply Ev.step
   ·intro k
    simp only [QP.value_fit.l0,rd_ofV l j hlt,ofV_f0,ofV_f1,ofV_f2]
    rfl
   refine Ev.ip (by omega) (Ev.ip (by omega) (Ev.ip (by rw [List.length_map];omega) (Ev.in_ (by rw [List.length_map];omega) ?_)))
   have hmodI : Int.tmod (j : Int) ((P.map ofF).length : Int) = ((j % P.length : Nat) : Int) := by rw [List.length_map];rfl
   simp only [hmodI,rd_ofF P _ hmod,of_f0,of_f1,of_f2,of_f3,of_f4,of_f5]
   refine Ev.ip (by omega) (Ev.ip (by rw [List.length_map];omega) ?_)
   refine Ev.bind (ih l[j] (List.getElem_mem hlt) (P[j % P.length]) (hPw _ (List.getElem_mem hmod)) (hPc _ (List.getElem_mem hmod)) (hlw _ (List.getElem_mem hlt))) ?_
   rw [fitL_drop _ _ _ _ _ hlt]
   simp only [getD_ofF P _ hmod]
   rw [w64 (x := (j : Int) + 1) (by omega) (by omega),show (j : Int) + 1 = ((j + 1 : Nat) : Int) by omega]
   by_cases he : (fitR P[j % P.length] l[j]).2 = 0
   ·refine Ev.ip he ?_
    refine Ev.rp he ?_
    exact ihd (j + 1) _ (by omega) (by omega)
   ·refine Ev.in_ he ?_
    exact Ev.eq_ (Ev.now _) (if_neg he).symm
 have hj0 : ∀ b : Bool,b = decide (h.k = 3 ∧ l.length ≠ P.length) → Ev (fun k => QP.value_fit.j0 k b h.k h.s h.lo h.hi h.st (P.map ofF) a.n (bI a.b) (l.map ofV)) (if h.k = 3 ∧ l.length ≠ P.length then (0,15) else fitL (.mk h P) 0 0 l) := by
  intro b hb
  apply Ev.step
  ·intro k
   simp only [QP.value_fit.j0,List.length_map]
   rfl
  by_cases hc : h.k = 3 ∧ l.length ≠ P.length
  ·rw [decide_eq_true hc] at hb
   refine Ev.rp hc ?_
   exact Ev.ip hb (Ev.now _)
  ·rw [decide_eq_false hc] at hb
   refine Ev.rn hc ?_
   refine Ev.in_ (by simp [hb]) ?_
   have h0 := key (fun k3 => Decidable.byContradiction fun hne => hc ⟨k3,hne⟩) l.length 0 0 (by omega) (by omega)
   rw [List.drop_zero] at h0
   exact h0
 simp only [List.length_map]
 by_cases k3 : h.k = 3
 ·refine Ev.ip k3 (hj0 _ ?_)
  rw [Bool.eq_iff_iff]
  simp [k3]
  omega
 ·refine Ev.in_ k3 (hj0 _ ?_)
  simp [k3]

theorem size_ev (f : Fm) (x : Vt) (hf : wfF f = true) (hx : wfV x = true) : Ev (fun k => QP.value_size.f k f.a.k f.a.s f.a.lo f.a.hi f.a.st (f.l.map ofF) x.a.n (bI x.a.b) (x.l.map ofV)) (sizeR f x) := by
 simp only [QP.value_size.f]
 refine Ev.cb (lay_check f hf) ?_
 rw [sizeR]
 by_cases hc : (if deepB 8 f = true then (14 : Int) else checkR f) = 0
 ·refine Ev.rp hc ?_
  have hck : checkR f = 0 := by
   split at hc
   ·omega
   ·exact hc
  refine Ev.ip hc (Ev.bind (fit_ev x f hf hck hx) ?_)
  by_cases he : (fitR f x).2 = 0
  ·refine Ev.rp he ?_
   exact Ev.ip he (Ev.now _)
  ·refine Ev.rn he ?_
   exact Ev.in_ he (Ev.now _)
 ·refine Ev.rn hc ?_
  exact Ev.in_ hc (Ev.now _)
theorem Fits_ev (f : Fm) (x : Vt) (hf : wfF f = true) (hx : wfV x = true) : Ev (fun k => QP.value_Fits.f k f.a.k f.a.s f.a.lo f.a.hi f.a.st (f.l.map ofF) x.a.n (bI x.a.b) (x.l.map ofV)) (sizeR f x).2 := by
 simp only [QP.value_Fits.f]
 exact Ev.bind (size_ev f x hf hx) (Ev.now _)
theorem Size_ev (f : Fm) (x : Vt) (hf : wfF f = true) (hx : wfV x = true) : Ev (fun k => QP.value_Size.f k f.a.k f.a.s f.a.lo f.a.hi f.a.st (f.l.map ofF) x.a.n (bI x.a.b) (x.l.map ofV)) (sizeR f x).1 := by
 simp only [QP.value_Size.f]
 exact Ev.bind (size_ev f x hf hx) (Ev.now _)
/-! ### value.Fits and Size, at my words. -/
theorem vfits_any (ok ok2 : Nat → Prop) (f : Fm) (x : Vt) (v u : Value) (w : World) (hv : FmR w ok v f) (hu : VtR w ok2 u x) : Calls Try.prog 33 #[v,u] w fun e w' => e = .returned (.int .i64 (sizeR f x).2) ∧ Kp (fun _ => False) w w' := by
 obtain ⟨hw1,hw2⟩ : wfF f = true ∧ wfV x = true := by
  obtain ⟨_,_,h1⟩ := hv.tr
  obtain ⟨_,_,_,h2⟩ := hu.tr
  exact ⟨tr_wfF f _ h1,tr_wfV x _ h2⟩
 obtain ⟨K,hK⟩ := (Fits_ev f x hw1 hw2).rounds
 obtain ⟨⟨k,s,lo,hi,st⟩,P⟩ := f
 obtain ⟨⟨n,b⟩,l⟩ := x
 obtain ⟨A,c,rfl,_,_,_,_,_,_,_,h1⟩ := hv.parts
 obtain ⟨A1,c1,A2,c2,rfl,_,_,hbl,hb,_,_,h2⟩ := hu.parts
 obtain ⟨_,g1,g2⟩ := h1.c
 obtain ⟨_,g3,g4⟩ := br_c hb hbl
 obtain ⟨_,g5,g6⟩ := h2.c
 have := QP.value_Fits.calls K k s lo hi st A c (P.map ofF) n A1 c1 (bI b) A2 c2 (l.map ofV) _ w g2 g1 g4 g3 g6 g5 hK
 simp only [List.length_map,bI_len] at this
 exact this.mono fun e w' h => ⟨h.1,Kp.of_below h.2⟩
theorem vsize_any (ok ok2 : Nat → Prop) (f : Fm) (x : Vt) (v u : Value) (w : World) (hv : FmR w ok v f) (hu : VtR w ok2 u x) : Calls Try.prog 32 #[v,u] w fun e w' => e = .returned (.int .i64 (sizeR f x).1) ∧ Kp (fun _ => False) w w' := by
 obtain ⟨hw1,hw2⟩ : wfF f = true ∧ wfV x = true := by
  obtain ⟨_,_,h1⟩ := hv.tr
  obtain ⟨_,_,_,h2⟩ := hu.tr
  exact ⟨tr_wfF f _ h1,tr_wfV x _ h2⟩
 obtain ⟨K,hK⟩ := (Size_ev f x hw1 hw2).rounds
 obtain ⟨⟨k,s,lo,hi,st⟩,P⟩ := f
 obtain ⟨⟨n,b⟩,l⟩ := x
 obtain ⟨A,c,rfl,_,_,_,_,_,_,_,h1⟩ := hv.parts
 obtain ⟨A1,c1,A2,c2,rfl,_,_,hbl,hb,_,_,h2⟩ := hu.parts
 obtain ⟨_,g1,g2⟩ := h1.c
 obtain ⟨_,g3,g4⟩ := br_c hb hbl
 obtain ⟨_,g5,g6⟩ := h2.c
 have := QP.value_Size.calls K k s lo hi st A c (P.map ofF) n A1 c1 (bI b) A2 c2 (l.map ofV) _ w g2 g1 g4 g3 g6 g5 hK
 simp only [List.length_map,bI_len] at this
 exact this.mono fun e w' h => ⟨h.1,Kp.of_below h.2⟩
end Go.Proofs.Ytfcghajnnllmhaa

namespace Go.Proofs.Ytfcghajnnllmhaa
open Go.RowKit

theorem value_info4 : (Try.prog.info? 46).map (fun i => (i.zero,i.size,i.bytes)) = some (some (.agg #[.int .u64 0,.slice none 0 0,.slice none 0 0]),3,56) := by kernel_rfl
/-- append of values to values of the call's own. -/
theorem app_vals {w : World} {ops : Array Oper} {rest : List Oper} {o : Oper} {a : Act} {Q : Exit → Act → World → Prop} (hgd : o.guard = none) (s x : Operand)
  (ho : o.op = .call { callee := .builtin .append,args := #[s,x],argTypes := #[44,44] })
  (B : Nat) (A : Option Addr) (n c : Nat) (xs : List Value) (hs : a.eval s = .slice A n c) (hown : Own w (B ≤ ·) 46 3 (.slice A n c) n xs)
  (ok : Nat → Prop) (Ax : Option Addr) (m cx : Nat) (xx : List Value) (hx : a.eval x = .slice Ax m cx) (hr : Rd w ok 3 Ax m xx) (h1 : ∀ u ∈ xx,u.oneCell' = true)
  (hk2 : n + m ≤ 2199023255552) (hB : B ≤ w.heap.size)
  (h : ∀ A' c' w',Own w' (B ≤ ·) 46 3 (.slice A' (n + m) c') (n + m) (xs ++ xx) → Kp (B ≤ ·) w w' → wpList Try.prog ops Q rest (a.put o.dst (.slice A' (n + m) c')) w') : wpList Try.prog ops Q (o :: rest) a w := by
 obtain ⟨i0,hi0,hz0,hz1,hz2⟩ := info_parts value_info4
 refine wpList_append_any w hgd s x _ ho 0 46 i0 _ 3 56 Try.underlying44 hi0 hz0 hz1 hz2 rfl (by omega) (.slice A n c) n xs hs hown.1 ok Ax m cx xx hx hr h1 (by simp only [maxLen];omega) (by omega) (Nat.zero_le _) ?_
 intro v' w' h1 h2 h3
 have hk' : Kp (B ≤ ·) w w' := (Kp.refl _ _).grown h2 (fun j hj => .inl (hown.2 j hj))
 have ho' : Own w' (B ≤ ·) 46 3 v' (n + m) (xs ++ xx) := ⟨h1,fun j hj => by
  rcases h3 with e | e
  ·exact hown.2 j (e ▸ hj)
  ·rw [e] at hj
   injection hj with hj
   omega⟩
 obtain ⟨A',c',e,_⟩ := ho'.shape
 subst e
 exact h A' c' w' ho' hk'

set_option maxRecDepth 100000 in
theorem vclone_any (ok : Nat → Prop) (v : Value) (l : List Vt) (w : World) (hv : VsR w ok v l) (hl : l.length ≤ 2199023255552) :
  Calls Try.prog 57 #[v] w fun e w' => ∃ A c,e = .returned (.slice A l.length c) ∧ VsR w' (fun i => ok i ∨ w.heap.size ≤ i) (.slice A l.length c) l ∧ Kp (fun _ => False) w w' := by
 obtain ⟨A,c,rfl,hc,hc2,ht⟩ := id hv
 cases A with
 | none =>
  have h0 : l = [] := by
   rcases l with _ | ⟨a,l⟩
   ·rfl
   ·obtain ⟨b,off,e,_⟩ := ht (by simp)
    cases e
  subst h0
  have HN := fun W c => Lib.run_eql_slice_nil (P := Try.prog) W 44 46 none 0 c 0 0 Try.underlying44
  clear ht hv
  go_enter Try.func57,Try.ntmps57
  go_wp2_with fail
  go_ret
  exact ⟨none,0,rfl,VsR.nil,Kp.refl _ _⟩
 | some ad =>
  have HN := fun W => Lib.run_eql_slice_nil (P := Try.prog) W 44 46 (some ad) l.length c 0 0 Try.underlying44
  obtain ⟨xs,hr,h1,hmv⟩ := TL.flat VHd_kp VHd_one ht
  have ka : Kp (fun _ => False) w (w.alloc (.cells #[] 46)) := (Kp.refl _ _).alloc _
  have HR := Lib.hid (hr.kp ka (fun _ _ h => h))
  have H1 := Lib.hid h1
  have HM := Lib.hid hmv
  have HO := Lib.hid (Own.lit_ w 46 3 [] #[] 0 w.heap.size rfl rfl (Nat.le_refl _) (by decide))
  have hz := ka.size
  clear hr h1 hmv ht hv
  go_enter Try.func57,Try.ntmps57
  go_wp2_with (at_builtin;refine app_vals rfl (.tmp 5) (.tmp 6) rfl w.heap.size _ 0 _ [] rfl HO.out _ (some ad) l.length c xs rfl HR.out H1.out (by omega) hz ?_;intro A2 c2 W2 o2 q2;have O2 := Lib.hid o2;have K2 := Lib.hid (ka.then_ q2 (fun i hi => .inr hi));clear o2 q2;rw [Nat.zero_add] at *)
  go_ret
  obtain ⟨A',c',e,hcc⟩ := O2.out.shape
  injection e with e1 e2 e3
  subst e1 e3
  refine ⟨A2,c2,rfl,⟨A2,c2,rfl,hcc,hc2,HM.out (fun _ => False) _ W2 A2 K2.out (fun _ _ h => h) (fun i hi => .inl hi) ?_⟩,K2.out⟩
  have hrd := O2.out.rd
  rw [List.nil_append] at hrd
  refine ⟨hrd.1,fun h0 => ?_⟩
  obtain ⟨ad',e',hsp,hb',hcell⟩ := hrd.2 h0
  exact ⟨ad',e',hsp,.inr hb',hcell⟩

set_option maxRecDepth 100000 in
theorem vnum_any (x : Int) (w : World) : Calls Try.prog 38 #[.int .u64 x] w fun e w' => e = .returned (.agg #[.int .u64 x,.slice none 0 0,.slice none 0 0]) ∧ Kp (fun _ => False) w w' := by
 have HK := Lib.hid (show ∀ o,Kp (fun _ => False) w (w.alloc o) from fun o => (Kp.refl _ _).alloc o)
 go_enter Try.func38,Try.ntmps38
 go_wp2_with fail
 refine bodyPost_ret (v := .agg #[.int .u64 x,.slice none 0 0,.slice none 0 0]) (by simp [results,Try.results38,go_sem]) rfl ⟨rfl,HK.out _⟩

theorem Kp.put3v {S : Nat → Prop} {a w : World} (h : Kp S a w) {B : Nat} (hB : S B ∨ a.heap.size ≤ B) (v0 v1 v2 : Value) : Kp S a (((w.setCell ⟨B,0,none⟩ v0).setCell ⟨B,1,none⟩ v1).setCell ⟨B,2,none⟩ v2) :=
 ((h.at_ B hB 0 v0).at_ B hB 1 v1).at_ B hB 2 v2
set_option maxRecDepth 100000 in
theorem vlist_any (ok : Nat → Prop) (v : Value) (l : List Vt) (w : World) (hlt : ∀ i,ok i → i < w.heap.size) (hv : VsR w ok v l) (hl : l.length ≤ 2199023255552) :
  Calls Try.prog 36 #[v] w fun e w' => ∃ A c,e = .returned (.agg #[.int .u64 0,.slice none 0 0,.slice A l.length c]) ∧ VtR w' (fun i => ok i ∨ w.heap.size ≤ i) (.agg #[.int .u64 0,.slice none 0 0,.slice A l.length c]) (.mk ⟨0,[]⟩ l) ∧ Kp (fun _ => False) w w' := by
 have HK := Lib.hid (show ∀ o,Kp (fun _ => False) w (w.alloc o) from fun o => (Kp.refl _ _).alloc o)
 have HC := Lib.hid (fun o => vclone_any ok v l (w.alloc o) (VsR.kp hv ((Kp.refl (fun _ => False) w).alloc o) (fun _ _ h => h)) hl)
 have HB := Lib.hid (Blk.new w 46 #[.int .u64 0,.slice none 0 0,.slice none 0 0])
 have HLT := Lib.hid hlt
 clear hv hlt
 go_enter Try.func36,Try.ntmps36
 go_wp2_with fail
 refine (HC.out _).mono ?_
 rintro e w1 ⟨A,c,rfl,hs1,hk1⟩
 have hb1 := HB.out.kp hk1 (fun h => h)
 have e0 := hb1.cell 0
 have e1 := hb1.cell 1
 have e2 := hb1.cell 2
 simp at e0 e1 e2
 have z0 := hb1.frozen 0
 have z1 := hb1.frozen 1
 have z2 := hb1.frozen 2
 have HK1 := Lib.hid ((HK.out _).then_ hk1 (fun _ h => h.elim))
 have HS1 := Lib.hid hs1
 have hlt := hb1.lt
 clear hk1 hs1 hb1
 go_wp2_with fail
 have hk9 := (Kp.refl (fun x => x = w.heap.size) w1).put3v (B := w.heap.size) (.inl rfl) (.int .u64 0) (.slice none 0 0) (.slice A l.length c)
 have hkw := HK1.out.then_ hk9 (fun i hi => .inr (by omega))
 have hs9 := HS1.out.kp hk9 (fun i hi he => by
  rw [World.size_alloc] at hi
  rcases hi with hi | hi
  ·have := HLT.out i hi;omega
  ·omega)
 refine bodyPost_ret (v := .agg #[.int .u64 0,.slice none 0 0,.slice A l.length c]) (by simp [results,Try.results36,go_sem,e0,e1,e2]) rfl ⟨A,c,rfl,⟨_,_,rfl,⟨by show (0 : Int) ≤ 0;omega,by show (0 : Int) < _;omega⟩,BR.nil,by show 0 ≤ 140737488355328;omega,hs9.mono (fun i hi => ?_)⟩,hkw⟩
 rw [World.size_alloc] at hi
 rcases hi with hi | hi
 ·exact .inl hi
 ·exact .inr (by omega)
end Go.Proofs.Ytfcghajnnllmhaa

namespace Go.Proofs.Ytfcghajnnllmhaa
open Go.RowKit

theorem FHd_lt : HeadLt FHd := ⟨fun h => h⟩
theorem FsR.lt_ {w : World} {ok : Nat → Prop} {v : Value} {l : List Fm} (h : FsR w ok v l) : FsR w (fun i => ok i ∧ i < w.heap.size) v l := by
 obtain ⟨A,c,e,h1,h2,h3⟩ := h
 exact ⟨A,c,e,h1,h2,h3.lt_ FHd_lt⟩
theorem FmR.lt_ {w : World} {ok : Nat → Prop} {v : Value} {f : Fm} (h : FmR w ok v f) : FmR w (fun i => ok i ∧ i < w.heap.size) v f := by
 obtain ⟨sv,e,h1,h2⟩ := h
 exact ⟨sv,e,h1,h2.lt_⟩

/-- Forms in a slice, of blocks that there are. -/
def FsW (w : World) (v : Value) (l : List Fm) : Prop := FsR w (· < w.heap.size) v l
theorem FsW.kp {w w' : World} {v : Value} {l : List Fm} (h : FsW w v l) (hk : Kp (fun _ => False) w w') : FsW w' v l :=
 (FsR.kp h hk (fun _ _ h => h)).mono (fun _ hi => Nat.lt_of_lt_of_le hi hk.size)

end Go.Proofs.Ytfcghajnnllmhaa

namespace Go.Proofs.Ytfcghajnnllmhaa
open Go.RowKit

/-- One form, laid as a slice. -/
theorem FsR.one_ {w : World} {ok : Nat → Prop} {f : Fm} {A : Option Addr} {c : Nat} (h : FmR w ok (.agg #[.int .i64 f.a.k,.int .i64 f.a.s,.int .i64 f.a.lo,.int .i64 f.a.hi,.int .i64 f.a.st,.slice A f.l.length c]) f) {W : World} {B : Nat} {S : Nat → Prop}
  (hk : Kp S w W) (hd : ∀ i,ok i → ¬ S i) (hb : w.heap.size ≤ B) (hB : Blk W B 27 #[.int .i64 f.a.k,.int .i64 f.a.s,.int .i64 f.a.lo,.int .i64 f.a.hi,.int .i64 f.a.st,.slice A f.l.length c]) :
  FsR W (fun i => ok i ∨ w.heap.size ≤ i) (.slice (some ⟨B,0,none⟩) 1 1) [f] := by
 refine ⟨_,_,rfl,Nat.le_refl _,by simp,fun _ => ⟨B,0,rfl,.inr hb,?_⟩⟩
 rw [TRs]
 obtain ⟨sv,e,ht⟩ := FmR.tr ((h.kp hk hd).mono (ok' := fun i => ok i ∨ w.heap.size ≤ i) (fun _ h => .inl h))
 simp only [Value.agg.injEq,Array.mk.injEq,List.cons.injEq,and_true,true_and] at e
 subst e
 refine ⟨⟨_,ht,fun j u hu => ?_⟩,by rw [TRs];trivial⟩
 rw [Nat.zero_add,hB.cell]
 simpa using hu

/-! ### Rows in rows. -/
structure NestP (j : Nat) (f : Fm) : Prop where
 deep : ∀ m,deepB m f = decide (m ≤ j)
 check : checkR f = 0
 opn : openR f = false
 least : leastR f = 2
theorem NestP.row {j : Nat} {f : Fm} (h : NestP j f) : NestP (j + 1) (.mk ⟨3,0,0,0,0⟩ [f]) := by
 refine ⟨fun m => ?_,?_,?_,?_⟩
 ·cases m with
  | zero => rfl
  | succ m =>
   show [f].any (deepB m) = _
   simp [h.deep]
 ·rw [checkR_mk]
  have e : ownN 3 0 0 0 0 [f].length = 0 := by rfl
  have e2 : checkL [f] = 0 := by rw [checkL,checkL,h.check];rfl
  have e3 : badF 3 [f].length 0 [f] = false := by rw [badF,badF,badI,h.opn];rfl
  simp only [e,e2,e3]
  rfl
 ·rw [openR_mk]
  simp only [openL,h.opn]
  rfl
 ·have e : spanR FH.lo f = 2 := h.least
  rw [leastR,spanR_mk]
  simp only [spanL,e]
  simp [wrap64]
end Go.Proofs.Ytfcghajnnllmhaa
