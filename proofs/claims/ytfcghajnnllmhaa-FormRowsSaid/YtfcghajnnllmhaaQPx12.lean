-- Written by a program of this session (wip/tools/pw.py) out of the translation. Lean checks it.
import Derived.Test.YtfcghajnnllmhaaQPx0
import Derived.Test.YtfcghajnnllmhaaQPx1
import Derived.Test.YtfcghajnnllmhaaQPx4
import Derived.Test.YtfcghajnnllmhaaQPx5
import Derived.Test.YtfcghajnnllmhaaQPx11
namespace Go.Proofs.Ytfcghajnnllmhaa.QP
open Go.RowKit Go.Proofs.YtfcghajnnllmhaaW.PrintWords Go.Proofs.YtfcghajnnllmhaaW.PrintLast Go.Proofs.YtfcghajnnllmhaaW.PrintMore
attribute [local go_sem] max2_int min2_int max_two min_two max_three min_three max_four min_four   -- for this text's walks alone
set_option linter.unusedVariables false
set_option linter.unusedSimpArgs false

/-! ### passepartoutlaw04_FormRows: function 4 -/
mutual
def passepartoutlaw04_FormRows.j0 : Nat → List (S27) → Bool → Option (Bool)
  | 0, _, _ => none
  | k + 1, x0, x20 => if x20 = true then ((passepartoutlaw04_alive.f).bind fun t173 => (some t173)) else (passepartoutlaw04_FormRows.l0 k x0 0 0 x0 (x0.length : Int) 0)
def passepartoutlaw04_FormRows.l0 : Nat → List (S27) → Int → Int → List (S27) → Int → Int → Option (Bool)
  | 0, _, _, _, _, _, _ => none
  | k + 1, x0, x3, x4, x22, x23, x24 => if x24 < x23 then (if 0 ≤ x24 then (if x24 < (x22.length : Int) then ((passepartoutref04_Check.f k ((rd_T27 x22 x24).f0) ((rd_T27 x22 x24).f1) ((rd_T27 x22 x24).f2) ((rd_T27 x22 x24).f3) ((rd_T27 x22 x24).f4) ((rd_T27 x22 x24).f5)).bind fun t176 => (if t176 = 0 then ((passepartoutref04_Depth.f k ((rd_T27 x22 x24).f0) ((rd_T27 x22 x24).f1) ((rd_T27 x22 x24).f2) ((rd_T27 x22 x24).f3) ((rd_T27 x22 x24).f4) ((rd_T27 x22 x24).f5) 9).bind fun t177 => (if t177 > 6 then (passepartoutlaw04_FormRows.j2 k x0 x3 x4 x22 x23 x24 true ((rd_T27 x22 x24).f0) ((rd_T27 x22 x24).f1) ((rd_T27 x22 x24).f2) ((rd_T27 x22 x24).f3) ((rd_T27 x22 x24).f4) ((rd_T27 x22 x24).f5)) else ((layout_Open.f ((rd_T27 x22 x24).f0) ((rd_T27 x22 x24).f1) ((rd_T27 x22 x24).f2) ((rd_T27 x22 x24).f3) ((rd_T27 x22 x24).f4) ((rd_T27 x22 x24).f5)).bind fun t178 => (if t178 = true then (passepartoutlaw04_FormRows.j2 k x0 x3 x4 x22 x23 x24 (decide ((wrap64 (x24 + 1)) < (x0.length : Int))) ((rd_T27 x22 x24).f0) ((rd_T27 x22 x24).f1) ((rd_T27 x22 x24).f2) ((rd_T27 x22 x24).f3) ((rd_T27 x22 x24).f4) ((rd_T27 x22 x24).f5)) else (passepartoutlaw04_FormRows.j2 k x0 x3 x4 x22 x23 x24 false ((rd_T27 x22 x24).f0) ((rd_T27 x22 x24).f1) ((rd_T27 x22 x24).f2) ((rd_T27 x22 x24).f3) ((rd_T27 x22 x24).f4) ((rd_T27 x22 x24).f5)))))) else (passepartoutlaw04_FormRows.j2 k x0 x3 x4 x22 x23 x24 true ((rd_T27 x22 x24).f0) ((rd_T27 x22 x24).f1) ((rd_T27 x22 x24).f2) ((rd_T27 x22 x24).f3) ((rd_T27 x22 x24).f4) ((rd_T27 x22 x24).f5)))) else (none)) else (none)) else ((layout_Row.f x0).bind fun bt182 => ((layout_Check.f bt182.1 bt182.2.1 bt182.2.2.1 bt182.2.2.2.1 bt182.2.2.2.2.1 bt182.2.2.2.2.2).bind fun t191 => (if t191 = 0 then ((layout_Least.f bt182.1 bt182.2.1 bt182.2.2.1 bt182.2.2.2.1 bt182.2.2.2.2.1 bt182.2.2.2.2.2).bind fun t192 => (if t192 = x3 then ((layout_Most.f bt182.1 bt182.2.1 bt182.2.2.1 bt182.2.2.2.1 bt182.2.2.2.2.1 bt182.2.2.2.2.2).bind fun t193 => (if t193 = x4 then ((layout_Open.f bt182.1 bt182.2.1 bt182.2.2.1 bt182.2.2.2.1 bt182.2.2.2.2.1 bt182.2.2.2.2.2).bind fun t194 => (if (x0.length : Int) > 0 then (if 0 ≤ (wrap64 ((x0.length : Int) - 1)) then (if (wrap64 ((x0.length : Int) - 1)) < (x0.length : Int) then ((layout_Open.f ((rd_T27 x0 (wrap64 ((x0.length : Int) - 1))).f0) ((rd_T27 x0 (wrap64 ((x0.length : Int) - 1))).f1) ((rd_T27 x0 (wrap64 ((x0.length : Int) - 1))).f2) ((rd_T27 x0 (wrap64 ((x0.length : Int) - 1))).f3) ((rd_T27 x0 (wrap64 ((x0.length : Int) - 1))).f4) ((rd_T27 x0 (wrap64 ((x0.length : Int) - 1))).f5)).bind fun t196 => (passepartoutlaw04_FormRows.j3 k x3 (t194 != t196) bt182.1 bt182.2.1 bt182.2.2.1 bt182.2.2.2.1 bt182.2.2.2.2.1 bt182.2.2.2.2.2)) else (none)) else (none)) else (passepartoutlaw04_FormRows.j3 k x3 (t194 != false) bt182.1 bt182.2.1 bt182.2.2.1 bt182.2.2.2.1 bt182.2.2.2.2.1 bt182.2.2.2.2.2))) else (passepartoutlaw04_FormRows.j3 k x3 true bt182.1 bt182.2.1 bt182.2.2.1 bt182.2.2.2.1 bt182.2.2.2.2.1 bt182.2.2.2.2.2))) else (passepartoutlaw04_FormRows.j3 k x3 true bt182.1 bt182.2.1 bt182.2.2.1 bt182.2.2.2.1 bt182.2.2.2.2.1 bt182.2.2.2.2.2))) else (passepartoutlaw04_FormRows.j3 k x3 true bt182.1 bt182.2.1 bt182.2.2.1 bt182.2.2.2.1 bt182.2.2.2.2.1 bt182.2.2.2.2.2))))
def passepartoutlaw04_FormRows.j2 : Nat → List (S27) → Int → Int → List (S27) → Int → Int → Bool → Int → Int → Int → Int → Int → List (S27) → Option (Bool)
  | 0, _, _, _, _, _, _, _, _, _, _, _, _, _ => none
  | k + 1, x0, x3, x4, x22, x23, x24, x47, x176000, x176001, x176002, x176003, x176004, x176005 => if x47 = true then ((passepartoutlaw04_alive.f).bind fun t179 => (some t179)) else ((layout_Least.f x176000 x176001 x176002 x176003 x176004 x176005).bind fun t180 => ((layout_Most.f x176000 x176001 x176002 x176003 x176004 x176005).bind fun t181 => (passepartoutlaw04_FormRows.l0 k x0 (wrap64 (x3 + t180)) (wrap64 (x4 + t181)) x22 x23 (wrap64 (x24 + 1)))))
def passepartoutlaw04_FormRows.j3 : Nat → Int → Bool → Int → Int → Int → Int → Int → List (S27) → Option (Bool)
  | 0, _, _, _, _, _, _, _, _ => none
  | k + 1, x3, x91, x191000, x191001, x191002, x191003, x191004, x191005 => if x91 = true then (some false) else ((layout_List.f 3 0 9 1 x191000 x191001 x191002 x191003 x191004 x191005).bind fun bt197 => ((layout_Check.f bt197.1 bt197.2.1 bt197.2.2.1 bt197.2.2.2.1 bt197.2.2.2.2.1 bt197.2.2.2.2.2).bind fun t205 => (if x3 > 0 then ((layout_Open.f x191000 x191001 x191002 x191003 x191004 x191005).bind fun t206 => (if t205 = 0 then (if t206 = true then (some false) else (some true)) else (if t206 = true then (some (t205 == 15)) else (some false)))) else (if t205 = 0 then (some false) else (some (t205 == 15))))))
end
def passepartoutlaw04_FormRows.f (k : Nat) (l0 : List (S27)) : Option (Bool) := if 0 ≤ (mn (l0.length : Int) 32) then (if (mn (l0.length : Int) 32) ≤ (l0.length : Int) then ((some (l0.take ((mn (l0.length : Int) 32) : Int).toNat : List (S27))).bind fun y167 => ((passepartoutlaw04_alive.f).bind fun t171 => (if t171 = true then ((passepartoutlaw04_great.f k 3 0 0 0 0 y167).bind fun t172 => (passepartoutlaw04_FormRows.j0 k y167 t172)) else (passepartoutlaw04_FormRows.j0 k y167 true)))) else (none)) else (none)
theorem passepartoutlaw04_FormRows.mono_l : ∀ k, (∀ y0 y1, LeO (passepartoutlaw04_FormRows.j0 k y0 y1) (passepartoutlaw04_FormRows.j0 (k + 1) y0 y1)) ∧ (∀ y0 y1 y2 y3 y4 y5, LeO (passepartoutlaw04_FormRows.l0 k y0 y1 y2 y3 y4 y5) (passepartoutlaw04_FormRows.l0 (k + 1) y0 y1 y2 y3 y4 y5)) ∧ (∀ y0 y1 y2 y3 y4 y5 y6 y7 y8 y9 y10 y11 y12, LeO (passepartoutlaw04_FormRows.j2 k y0 y1 y2 y3 y4 y5 y6 y7 y8 y9 y10 y11 y12) (passepartoutlaw04_FormRows.j2 (k + 1) y0 y1 y2 y3 y4 y5 y6 y7 y8 y9 y10 y11 y12)) ∧ (∀ y0 y1 y2 y3 y4 y5 y6 y7, LeO (passepartoutlaw04_FormRows.j3 k y0 y1 y2 y3 y4 y5 y6 y7) (passepartoutlaw04_FormRows.j3 (k + 1) y0 y1 y2 y3 y4 y5 y6 y7))
  | 0 => ⟨fun _ _ r h => by simp [passepartoutlaw04_FormRows.j0] at h, fun _ _ _ _ _ _ r h => by simp [passepartoutlaw04_FormRows.l0] at h, fun _ _ _ _ _ _ _ _ _ _ _ _ _ r h => by simp [passepartoutlaw04_FormRows.j2] at h, fun _ _ _ _ _ _ _ _ r h => by simp [passepartoutlaw04_FormRows.j3] at h⟩
  | k + 1 => by
    obtain ⟨ih0, ih1, ih2, ih3⟩ := passepartoutlaw04_FormRows.mono_l k
    refine ⟨?_, ?_, ?_, ?_⟩
    · intro y0 y1
      unfold passepartoutlaw04_FormRows.j0
      repeat' first
      | (with_reducible exact ih0 _ _)
      | (with_reducible exact ih1 _ _ _ _ _ _)
      | (with_reducible exact ih2 _ _ _ _ _ _ _ _ _ _ _ _ _)
      | (with_reducible exact ih3 _ _ _ _ _ _ _ _)
      | (with_reducible exact passepartoutlaw04_great.mono _ _ _ _ _ _ _)
      | (with_reducible exact passepartoutref04_Check.mono _ _ _ _ _ _ _)
      | (with_reducible exact passepartoutref04_Depth.mono _ _ _ _ _ _ _ _)
      | (with_reducible exact LeO.refl _)
      | (with_reducible exact LeO.none _)
      | (with_reducible refine LeO.ite ?_ ?_)
      | (with_reducible refine LeO.bind ?_ (fun _ => ?_))
      | exact ih0 _ _
      | exact ih1 _ _ _ _ _ _
      | exact ih2 _ _ _ _ _ _ _ _ _ _ _ _ _
      | exact ih3 _ _ _ _ _ _ _ _
      | exact passepartoutlaw04_great.mono _ _ _ _ _ _ _
      | exact passepartoutref04_Check.mono _ _ _ _ _ _ _
      | exact passepartoutref04_Depth.mono _ _ _ _ _ _ _ _
      | exact LeO.none _
      | refine LeO.ite ?_ ?_
      | refine LeO.bind ?_ (fun _ => ?_)
    · intro y0 y1 y2 y3 y4 y5
      unfold passepartoutlaw04_FormRows.l0
      repeat' first
      | (with_reducible exact ih0 _ _)
      | (with_reducible exact ih1 _ _ _ _ _ _)
      | (with_reducible exact ih2 _ _ _ _ _ _ _ _ _ _ _ _ _)
      | (with_reducible exact ih3 _ _ _ _ _ _ _ _)
      | (with_reducible exact passepartoutlaw04_great.mono _ _ _ _ _ _ _)
      | (with_reducible exact passepartoutref04_Check.mono _ _ _ _ _ _ _)
      | (with_reducible exact passepartoutref04_Depth.mono _ _ _ _ _ _ _ _)
      | (with_reducible exact LeO.refl _)
      | (with_reducible exact LeO.none _)
      | (with_reducible refine LeO.ite ?_ ?_)
      | (with_reducible refine LeO.bind ?_ (fun _ => ?_))
      | exact ih0 _ _
      | exact ih1 _ _ _ _ _ _
      | exact ih2 _ _ _ _ _ _ _ _ _ _ _ _ _
      | exact ih3 _ _ _ _ _ _ _ _
      | exact passepartoutlaw04_great.mono _ _ _ _ _ _ _
      | exact passepartoutref04_Check.mono _ _ _ _ _ _ _
      | exact passepartoutref04_Depth.mono _ _ _ _ _ _ _ _
      | exact LeO.none _
      | refine LeO.ite ?_ ?_
      | refine LeO.bind ?_ (fun _ => ?_)
    · intro y0 y1 y2 y3 y4 y5 y6 y7 y8 y9 y10 y11 y12
      unfold passepartoutlaw04_FormRows.j2
      repeat' first
      | (with_reducible exact ih0 _ _)
      | (with_reducible exact ih1 _ _ _ _ _ _)
      | (with_reducible exact ih2 _ _ _ _ _ _ _ _ _ _ _ _ _)
      | (with_reducible exact ih3 _ _ _ _ _ _ _ _)
      | (with_reducible exact passepartoutlaw04_great.mono _ _ _ _ _ _ _)
      | (with_reducible exact passepartoutref04_Check.mono _ _ _ _ _ _ _)
      | (with_reducible exact passepartoutref04_Depth.mono _ _ _ _ _ _ _ _)
      | (with_reducible exact LeO.refl _)
      | (with_reducible exact LeO.none _)
      | (with_reducible refine LeO.ite ?_ ?_)
      | (with_reducible refine LeO.bind ?_ (fun _ => ?_))
      | exact ih0 _ _
      | exact ih1 _ _ _ _ _ _
      | exact ih2 _ _ _ _ _ _ _ _ _ _ _ _ _
      | exact ih3 _ _ _ _ _ _ _ _
      | exact passepartoutlaw04_great.mono _ _ _ _ _ _ _
      | exact passepartoutref04_Check.mono _ _ _ _ _ _ _
      | exact passepartoutref04_Depth.mono _ _ _ _ _ _ _ _
      | exact LeO.none _
      | refine LeO.ite ?_ ?_
      | refine LeO.bind ?_ (fun _ => ?_)
    · intro y0 y1 y2 y3 y4 y5 y6 y7
      unfold passepartoutlaw04_FormRows.j3
      repeat' first
      | (with_reducible exact ih0 _ _)
      | (with_reducible exact ih1 _ _ _ _ _ _)
      | (with_reducible exact ih2 _ _ _ _ _ _ _ _ _ _ _ _ _)
      | (with_reducible exact ih3 _ _ _ _ _ _ _ _)
      | (with_reducible exact passepartoutlaw04_great.mono _ _ _ _ _ _ _)
      | (with_reducible exact passepartoutref04_Check.mono _ _ _ _ _ _ _)
      | (with_reducible exact passepartoutref04_Depth.mono _ _ _ _ _ _ _ _)
      | (with_reducible exact LeO.refl _)
      | (with_reducible exact LeO.none _)
      | (with_reducible refine LeO.ite ?_ ?_)
      | (with_reducible refine LeO.bind ?_ (fun _ => ?_))
      | exact ih0 _ _
      | exact ih1 _ _ _ _ _ _
      | exact ih2 _ _ _ _ _ _ _ _ _ _ _ _ _
      | exact ih3 _ _ _ _ _ _ _ _
      | exact passepartoutlaw04_great.mono _ _ _ _ _ _ _
      | exact passepartoutref04_Check.mono _ _ _ _ _ _ _
      | exact passepartoutref04_Depth.mono _ _ _ _ _ _ _ _
      | exact LeO.none _
      | refine LeO.ite ?_ ?_
      | refine LeO.bind ?_ (fun _ => ?_)
theorem passepartoutlaw04_FormRows.mono : ∀ a0 k, LeO (passepartoutlaw04_FormRows.f k a0) (passepartoutlaw04_FormRows.f (k + 1) a0) := by
  intro a0 k
  obtain ⟨ih0, ih1, ih2, ih3⟩ := passepartoutlaw04_FormRows.mono_l k
  unfold passepartoutlaw04_FormRows.f
  repeat' first
      | (with_reducible exact ih0 _ _)
      | (with_reducible exact ih1 _ _ _ _ _ _)
      | (with_reducible exact ih2 _ _ _ _ _ _ _ _ _ _ _ _ _)
      | (with_reducible exact ih3 _ _ _ _ _ _ _ _)
      | (with_reducible exact passepartoutlaw04_great.mono _ _ _ _ _ _ _)
      | (with_reducible exact passepartoutref04_Check.mono _ _ _ _ _ _ _)
      | (with_reducible exact passepartoutref04_Depth.mono _ _ _ _ _ _ _ _)
      | (with_reducible exact LeO.refl _)
      | (with_reducible exact LeO.none _)
      | (with_reducible refine LeO.ite ?_ ?_)
      | (with_reducible refine LeO.bind ?_ (fun _ => ?_))
      | exact ih0 _ _
      | exact ih1 _ _ _ _ _ _
      | exact ih2 _ _ _ _ _ _ _ _ _ _ _ _ _
      | exact ih3 _ _ _ _ _ _ _ _
      | exact passepartoutlaw04_great.mono _ _ _ _ _ _ _
      | exact passepartoutref04_Check.mono _ _ _ _ _ _ _
      | exact passepartoutref04_Depth.mono _ _ _ _ _ _ _ _
      | exact LeO.none _
      | refine LeO.ite ?_ ?_
      | refine LeO.bind ?_ (fun _ => ?_)
def passepartoutlaw04_FormRows.T10 : Bool × List (List Nat × List Nat) := (true, [([], []), ([], []), ([1], [1]), ([0, 2], [0, 2]), ([], []), ([], []), ([5, 2], [5]), ([4, 6], [4, 6]), ([3, 6, 0, 1, 2, 3], [0, 3]), ([7, 8, 0, 1, 2, 3, 4, 5, 6, 7, 8], [4, 7])])
def passepartoutlaw04_FormRows.B10 : List Nat := [0, 0, 2, 7, 0, 0, 38, 118, 111, 511]
theorem passepartoutlaw04_FormRows.tab10 : rtab .any (opsOf Try.f4 10) = passepartoutlaw04_FormRows.T10 := by kernel_rfl
theorem passepartoutlaw04_FormRows.bits10 : waitsOk passepartoutlaw04_FormRows.T10.2 passepartoutlaw04_FormRows.B10 = true := by kernel_rfl
set_option maxHeartbeats 8000000 in
set_option maxRecDepth 100000 in
theorem passepartoutlaw04_FormRows.calls (k : Nat) (A0 : Option Addr) (c0 : Nat) (l0 : List (S27)) (r : Bool) (w : World) (hr0 : Kd.C k27 w A0 l0.length l0) (hc0 : l0.length ≤ c0) (h : passepartoutlaw04_FormRows.f k l0 = some r) :
    Calls Try.prog 4 #[.slice A0 l0.length c0] w fun e w' => e = .returned (.bool r) ∧ Below w.heap.size w w' := by
  have hu27 := Try.underlying27
  have HR0 := Aside0.mk hr0
  have HC0 := Aside0.mk hc0
  clear hr0 hc0
  have HB := Aside0.mk (Below.refl w.heap.size w)
  have H : (if 0 ≤ (mn (l0.length : Int) 32) then (if (mn (l0.length : Int) 32) ≤ (l0.length : Int) then ((some (l0.take ((mn (l0.length : Int) 32) : Int).toNat : List (S27))).bind fun y167 => ((passepartoutlaw04_alive.f).bind fun t171 => (if t171 = true then ((passepartoutlaw04_great.f k 3 0 0 0 0 y167).bind fun t172 => (passepartoutlaw04_FormRows.j0 k y167 t172)) else (passepartoutlaw04_FormRows.j0 k y167 true)))) else (none)) else (none)) = some r := h
  clear h
  obtain ⟨ji2, hji2⟩ : ∃ j_ : Int, (mn (l0.length : Int) 32) = j_ := ⟨_, rfl⟩
  replace H : (if 0 ≤ (ji2) then (if (ji2) ≤ (l0.length : Int) then ((some (l0.take ((ji2) : Int).toNat : List (S27))).bind fun y167 => ((passepartoutlaw04_alive.f).bind fun t171 => (if t171 = true then ((passepartoutlaw04_great.f k 3 0 0 0 0 y167).bind fun t172 => (passepartoutlaw04_FormRows.j0 k y167 t172)) else (passepartoutlaw04_FormRows.j0 k y167 true)))) else (none)) else (none)) = some r := by first | (rw [hji2] at H; exact H) | (simp only [hji2] at H ⊢; exact H)
  (try (have hji2h : ji2 ≤ 32 := by (rw [← hji2]; unfold mn; (repeat' split) <;> omega)))
  (try (have hji2g : ji2 ≤ 64 := by omega))
  (try (have hji2l : 0 ≤ ji2 := by (rw [← hji2]; unfold mn; (repeat' split) <;> omega)))
  (try (have hji2m : 0 ≤ ji2 := by omega))
  have hji2_ : (if 32 < (l0.length : Int) then 32 else (l0.length : Int)) = ji2 := hji2
  by_cases c3 : 0 ≤ (ji2)
  · rw [if_pos c3] at H
    have c3b0 := eq_true c3
    have c3b1 : decide (0 ≤ (ji2)) = true := decide_eq_true c3
    clear c3
    by_cases c4 : (ji2) ≤ (l0.length : Int)
    · rw [if_pos c4] at H
      have c4b0 := eq_true c4
      have c4b1 : decide ((ji2) ≤ (l0.length : Int)) = true := decide_eq_true c4
      clear c4
      obtain ⟨y167, hy167⟩ : ∃ y_ : List (S27), y_ = (l0.take ((ji2) : Int).toNat) := ⟨_, rfl⟩
      replace H : ((passepartoutlaw04_alive.f).bind fun t171 => (if t171 = true then ((passepartoutlaw04_great.f k 3 0 0 0 0 y167).bind fun t172 => (passepartoutlaw04_FormRows.j0 k y167 t172)) else (passepartoutlaw04_FormRows.j0 k y167 true))) = some r := by first | (rw [hy167]; with_reducible exact H) | (have H2_ := (Option.bind_some _ _).symm.trans H; rw [hy167]; with_reducible exact H2_) | (have H2_ := (Option.bind_some _ _).symm.trans H; with_reducible exact H2_) | with_reducible exact H | (rw [hy167]; exact H) | exact H
      have Ny167 := Aside0.mk hy167
      clear hy167
      have HC5 := Aside0.mk H
      clear H
      have q6 : ((ji2) : Int) ≤ ((l0.length : Int) : Int) := of_decide_eq_true (by first | (with_reducible assumption) | assumption)
      obtain ⟨i06, hi06, _, hsz6, _⟩ := info_parts info27
      have hroom6 : l0.length ≤ c0 := HC0.out
      have hC6 : Kd.C k27 _ A0 l0.length l0 := HR0.out
      have hcut6 := cut_to (P := Try.prog) 25 27 .i64 Try.underlying25 hi06 A0 l0.length c0 (ji2) (of_decide_eq_true (by first | (with_reducible assumption) | assumption)) q6 hroom6
      have hr6 := Kd.C_take (m := ((ji2) : Int).toNat) hC6 (by omega)
      have hy6 : y167.length = ((ji2) : Int).toNat := (by rw [Ny167.out, List.length_take]; omega)
      rw [← Ny167.out] at hr6
      rw [← hy6] at hcut6
      have HR170 := Aside0.mk hr6
      have HC170 := Aside0.mk (show y167.length ≤ c0 from by omega)
      clear hr6 hC6 hroom6 hi06 hsz6
      have KY6 := Aside0.mk hy6
      clear hy6
      replace q6 := eq_true q6
      go_enter Try.func4, Try.ntmps4
      go_upto_region 2 with (fail)
      go_cut [20] (fun v20 wc => ∃ (kq : Nat) (x20_4 : Bool), v20 = .bool x20_4 ∧ Aside0 (passepartoutlaw04_FormRows.j0 kq y167 x20_4 = some r) ∧ Aside0 (kq ≤ k) ∧ Aside0 (Below w.heap.size w wc))
      case first =>
        have H := HC5.out
        clear HC5
        replace H := Option.bind_eq_some_iff.mp H
        obtain ⟨t171, A70, H⟩ := H
        replace H : (if t171 = true then ((passepartoutlaw04_great.f k 3 0 0 0 0 y167).bind fun t172 => (passepartoutlaw04_FormRows.j0 k y167 t172)) else (passepartoutlaw04_FormRows.j0 k y167 true)) = some r := H
        have A7 := Aside0.mk A70
        clear A70
        by_cases c8 : t171 = true
        · subst c8
          have H1 : ((passepartoutlaw04_great.f k 3 0 0 0 0 y167).bind fun t172 => (passepartoutlaw04_FormRows.j0 k y167 t172)) = some r := by rw [if_pos rfl] at H; exact H
          clear H
          have H := H1
          clear H1
          replace H := Option.bind_eq_some_iff.mp H
          obtain ⟨t172, A90, H⟩ := H
          replace H : (passepartoutlaw04_FormRows.j0 k y167 t172) = some r := H
          have A9 := Aside0.mk A90
          clear A90
          have H' := Aside0.mk H
          clear H
          go_wp2_with (first | ((with_reducible refine gate_callee (f := 19) rfl ?_); refine goesL_ (some 14) rfl rfl Try.func19 (by kernel_rfl) rfl #[] rfl (by (try simp only [List.map_toArray, List.map_cons, List.map_nil]); first | done | rfl | (simp only [List.length_drop, List.length_take]; rfl)) ?_; (with_reducible refine (passepartoutlaw04_alive.calls  true _ A7.out).mono ?_); rintro e w10 ⟨rfl, hb⟩; refine ⟨_, rfl, ?_⟩; have n0_ := Aside0.mk (below_step (by repeat (first | (with_reducible first | exact HB.out | apply below_alloc | apply pw_below_drewN | apply below_drew1) | exact HB.out)) hb); clear HB; have HB := n0_; clear n0_; (try clear hb); (try clear hb2); (try clear hk); (try clear hi)) | (go_at_call 20; (with_reducible refine (passepartoutlaw04_great.calls k 3 0 0 0 0 _ _ y167 t172 _ ?side1 ?side2 A9.out).mono ?_); (case side1 => repeat (first | exact (Kd.C_below HR170.out HB.out) | (with_reducible refine Kd.C_alloc ?_ _) | (with_reducible refine Kd.C_drewN ?_ _) | (with_reducible refine Kd.C_drew ?_))); (case side2 => exact HC170.out); rintro e w11 ⟨rfl, hb⟩; have n0_ := Aside0.mk (below_step (by repeat (first | (with_reducible first | exact HB.out | apply below_alloc | apply pw_below_drewN | apply below_drew1) | exact HB.out)) hb); clear HB; have HB := n0_; clear n0_; (try clear hb); (try clear hb2); (try clear hk); (try clear hi)))
          go_meet
          case rel => exact ⟨_, (t172), (by first | rfl | (simp; done) | (simp [*]; done)), H', ⟨by first | omega | exact Nat.le_refl _⟩, ⟨by repeat (first | (with_reducible first | exact HB.out | apply below_alloc | apply pw_below_drewN | apply below_drew1) | exact HB.out)⟩⟩
        · replace c8 := Bool.eq_false_iff.mpr c8
          subst c8
          have H1 : (passepartoutlaw04_FormRows.j0 k y167 true) = some r := by rw [if_neg (show ¬ (false = true) by decide)] at H; exact H
          clear H
          have H := H1
          clear H1
          have H' := Aside0.mk H
          clear H
          go_wp2_with (first | ((with_reducible refine gate_callee (f := 19) rfl ?_); refine goesL_ (some 14) rfl rfl Try.func19 (by kernel_rfl) rfl #[] rfl (by (try simp only [List.map_toArray, List.map_cons, List.map_nil]); first | done | rfl | (simp only [List.length_drop, List.length_take]; rfl)) ?_; (with_reducible refine (passepartoutlaw04_alive.calls  false _ A7.out).mono ?_); rintro e w12 ⟨rfl, hb⟩; refine ⟨_, rfl, ?_⟩; have n0_ := Aside0.mk (below_step (by repeat (first | (with_reducible first | exact HB.out | apply below_alloc | apply pw_below_drewN | apply below_drew1) | exact HB.out)) hb); clear HB; have HB := n0_; clear n0_; (try clear hb); (try clear hb2); (try clear hk); (try clear hi)))
          go_meet
          case rel => exact ⟨_, (true), (by first | rfl | (simp; done) | (simp [*]; done)), H', ⟨by first | omega | exact Nat.le_refl _⟩, ⟨by repeat (first | (with_reducible first | exact HB.out | apply below_alloc | apply pw_below_drewN | apply below_drew1) | exact HB.out)⟩⟩
      case rest =>
        clear HC5
        try clear c1
        try clear p2
        try clear c3
        try clear c3b0
        try clear c3b1
        try clear c4
        try clear c4b0
        try clear c4b1
        try clear q6
        try clear c8
        try clear q6
        obtain ⟨kq, x20_4, rfl, HA, HJ4, HB⟩ := hcut
        cases kq with
        | zero => exact absurd HA.out (by simp [passepartoutlaw04_FormRows.j0])
        | succ kj4 =>
          have H := HA.out
          clear HA
          simp only [passepartoutlaw04_FormRows.j0] at H
          by_cases c13 : x20_4 = true
          · subst c13
            have H1 : ((passepartoutlaw04_alive.f).bind fun t173 => (some t173)) = some r := by rw [if_pos rfl] at H; exact H
            clear H
            have H := H1
            clear H1
            replace H := Option.bind_eq_some_iff.mp H
            obtain ⟨t173, A140, H⟩ := H
            replace H : (some t173) = some r := H
            have A14 := Aside0.mk A140
            clear A140
            obtain rfl := Option.some.inj H
            go_wp2_with (first | ((with_reducible refine gate_callee (f := 19) rfl ?_); refine goesL_ (some 21) rfl rfl Try.func19 (by kernel_rfl) rfl #[] rfl (by (try simp only [List.map_toArray, List.map_cons, List.map_nil]); first | done | rfl | (simp only [List.length_drop, List.length_take]; rfl)) ?_; (with_reducible refine (passepartoutlaw04_alive.calls  t173 _ A14.out).mono ?_); rintro e w15 ⟨rfl, hb⟩; refine ⟨_, rfl, ?_⟩; have n0_ := Aside0.mk (below_step (by repeat (first | (with_reducible first | exact HB.out | apply below_alloc | apply pw_below_drewN | apply below_drew1) | exact HB.out)) hb); clear HB; have HB := n0_; clear n0_; (try clear hb); (try clear hb2); (try clear hk); (try clear hi)))
            go_ret
            exact ⟨by first | rfl | (simp [errW_none, errW_some] <;> rfl) | (simp only [← hji2]; first | rfl | (simp [errW_none, errW_some] <;> rfl)) | (simp [*, errW_none, errW_some] <;> rfl), by repeat (first | (with_reducible first | exact HB.out | apply below_alloc | apply pw_below_drewN | apply below_drew1) | exact HB.out)⟩
          · replace c13 := Bool.eq_false_iff.mpr c13
            subst c13
            have H1 : (passepartoutlaw04_FormRows.l0 kj4 y167 0 0 y167 (y167.length : Int) 0) = some r := by rw [if_neg (show ¬ (false = true) by decide)] at H; exact H
            clear H
            have H := H1
            clear H1
            have H' := Aside0.mk H
            clear H
            go_wp2
            go_loopg [3, 4, 24] kj4 (fun kq v3 v4 v24 w' => ∃ (x3_2 : Int) (x4_2 : Int) (x24_2 : Int), v3 = .int .i64 x3_2 ∧ v4 = .int .i64 x4_2 ∧ v24 = .int .i64 x24_2 ∧ Aside0 (passepartoutlaw04_FormRows.l0 kq y167 x3_2 x4_2 y167 (y167.length : Int) x24_2 = some r) ∧ Aside0 (kq ≤ kj4) ∧ Aside0 (Below w.heap.size w w'))
            case atStart => exact ⟨(0), (0), (0), (by first | rfl | (simp; done) | (simp [*]; done)), (by first | rfl | (simp; done) | (simp [*]; done)), (by first | rfl | (simp; done) | (simp [*]; done)), H', ⟨Nat.le_refl _⟩, ⟨by repeat (first | (with_reducible first | exact HB.out | apply below_alloc | apply pw_below_drewN | apply below_drew1) | exact HB.out)⟩⟩
            case round =>
              clear H'
              try clear c1
              try clear p2
              try clear c3
              try clear c3b0
              try clear c3b1
              try clear c4
              try clear c4b0
              try clear c4b1
              try clear q6
              try clear c8
              try clear c13
              try clear p2
              try clear q6
              obtain ⟨x3_2, x4_2, x24_2, rfl, rfl, rfl, HA, HK2, HB⟩ := hrel
              cases gk with
              | zero => exact absurd HA.out (by simp [passepartoutlaw04_FormRows.l0])
              | succ k2 =>
                have H := HA.out
                clear HA
                simp only [passepartoutlaw04_FormRows.l0] at H
                by_cases c16 : x24_2 < (y167.length : Int)
                · rw [if_pos c16] at H
                  have c16b0 : decide (x24_2 < (y167.length : Int)) = true := decide_eq_true c16
                  clear c16
                  by_cases c17 : 0 ≤ x24_2
                  · rw [if_pos c17] at H
                    have c17b0 : decide (0 ≤ x24_2) = true := decide_eq_true c17
                    clear c17
                    by_cases c18 : x24_2 < (y167.length : Int)
                    · rw [if_pos c18] at H
                      have c18b0 : decide (x24_2 < (y167.length : Int)) = true := decide_eq_true c18
                      clear c18
                      have HC19 := Aside0.mk H
                      clear H
                      have p174 : 0 ≤ (x24_2 : Int) := of_decide_eq_true (by first | (with_reducible assumption) | assumption)
                      have q174 : x24_2 < (y167.length : Int) := of_decide_eq_true (by first | (with_reducible assumption) | assumption)
                      obtain ⟨ad174, A174_5, c174_5, e174, hx174_0, hx174_1, hx174_2, hx174_3, hx174_4, hx174_5, hl174_5, hi174_5⟩ := at_T27 HR170.out x24_2 p174 q174
                      cases e174
                      replace hx174_0 := (HB.out.cell (World.block_lt_of_cell? w _ hx174_0)).trans hx174_0
                      replace hx174_1 := (HB.out.cell (World.block_lt_of_cell? w _ hx174_1)).trans hx174_1
                      replace hx174_2 := (HB.out.cell (World.block_lt_of_cell? w _ hx174_2)).trans hx174_2
                      replace hx174_3 := (HB.out.cell (World.block_lt_of_cell? w _ hx174_3)).trans hx174_3
                      replace hx174_4 := (HB.out.cell (World.block_lt_of_cell? w _ hx174_4)).trans hx174_4
                      replace hx174_5 := (HB.out.cell (World.block_lt_of_cell? w _ hx174_5)).trans hx174_5
                      have HR174_5 := Aside0.mk hi174_5
                      have HC174_5 := Aside0.mk hl174_5
                      clear hi174_5 hl174_5
                      replace p174 := eq_true p174
                      replace q174 := eq_true q174
                      go_upto_region 8 with (first | ((with_reducible refine gate_dst (N := 6) rfl ?_); (try (refine gate_guard (by rfl) ?_; dsimp only)); refine box_event ?hg (N := 6) ?hd (cs := #[.int .i64 0, .int .i64 0, .int .i64 0, .int .i64 0, .int .i64 0, .slice none 0 0]) (t := 27) ?hr ?_; (case hd => rfl); (case hg => rfl); (case hr => first | (go_simp; done) | (go_simp; rfl)); intro gb175 hg w20 hbox hb; have n0_ := Aside0.mk (below_step (by repeat (first | (with_reducible first | exact HB.out | apply below_alloc | apply pw_below_drewN | apply below_drew1) | exact HB.out)) hb); have n1_ := Aside0.mk (hbox); have n2_ := Aside0.mk ((by rw [hg]; exact (below_size (by repeat (first | (with_reducible first | exact HB.out | apply below_alloc | apply pw_below_drewN | apply below_drew1) | exact HB.out))) : w.heap.size ≤ gb175)); have n3_ := Aside0.mk ((by rw [hg]; exact (below_size (by repeat (first | (with_reducible first | exact HB.out | apply below_alloc | apply pw_below_drewN | apply below_drew1) | exact HB.out))) : w.heap.size ≤ gb175)); clear HB; have HB := n0_; have BK175 := n1_; have GW175 := n2_; have GE175 := n3_; clear n0_ n1_ n2_ n3_; clear hb hbox hg; have hcz21_0 : w20.cell? ⟨gb175, 0, none⟩ = some (.int .i64 0) := (blk_cell BK175.out 0).trans rfl; have hcz21_1 : w20.cell? ⟨gb175, 1, none⟩ = some (.int .i64 0) := (blk_cell BK175.out 1).trans rfl; have hcz21_2 : w20.cell? ⟨gb175, 2, none⟩ = some (.int .i64 0) := (blk_cell BK175.out 2).trans rfl; have hcz21_3 : w20.cell? ⟨gb175, 3, none⟩ = some (.int .i64 0) := (blk_cell BK175.out 3).trans rfl; have hcz21_4 : w20.cell? ⟨gb175, 4, none⟩ = some (.int .i64 0) := (blk_cell BK175.out 4).trans rfl; have hcz21_5 : w20.cell? ⟨gb175, 5, none⟩ = some (.slice none 0 0) := (blk_cell BK175.out 5).trans rfl; have hfz21_0 := blk_frozen BK175.out 0; have hfz21_1 := blk_frozen BK175.out 1; have hfz21_2 := blk_frozen BK175.out 2; have hfz21_3 := blk_frozen BK175.out 3; have hfz21_4 := blk_frozen BK175.out 4; have hfz21_5 := blk_frozen BK175.out 5))
                      (try simp only [Act.put, List.setIfInBounds_toArray, List.set_cons_zero, List.set_cons_succ])
                      go_cut [47] (fun v47 wc => ∃ (kq : Nat) (x47_18 : Bool), v47 = .bool x47_18 ∧ Aside0 (passepartoutlaw04_FormRows.j2 kq y167 x3_2 x4_2 y167 (y167.length : Int) x24_2 x47_18 ((rd_T27 y167 x24_2).f0) ((rd_T27 y167 x24_2).f1) ((rd_T27 y167 x24_2).f2) ((rd_T27 y167 x24_2).f3) ((rd_T27 y167 x24_2).f4) ((rd_T27 y167 x24_2).f5) = some r) ∧ Aside0 (kq ≤ k2) ∧ Aside0 (wc.heap[gb175]? = some (.cells #[.int .i64 ((rd_T27 y167 x24_2).f0), .int .i64 ((rd_T27 y167 x24_2).f1), .int .i64 ((rd_T27 y167 x24_2).f2), .int .i64 ((rd_T27 y167 x24_2).f3), .int .i64 ((rd_T27 y167 x24_2).f4), (.slice A174_5 ((rd_T27 y167 x24_2).f5).length c174_5)] 27 (0, 0))) ∧ Aside0 (Below w.heap.size w wc))
                      case first =>
                        have H := HC19.out
                        clear HC19
                        replace H := Option.bind_eq_some_iff.mp H
                        obtain ⟨t176, A220, H⟩ := H
                        replace H : (if t176 = 0 then ((passepartoutref04_Depth.f k2 ((rd_T27 y167 x24_2).f0) ((rd_T27 y167 x24_2).f1) ((rd_T27 y167 x24_2).f2) ((rd_T27 y167 x24_2).f3) ((rd_T27 y167 x24_2).f4) ((rd_T27 y167 x24_2).f5) 9).bind fun t177 => (if t177 > 6 then (passepartoutlaw04_FormRows.j2 k2 y167 x3_2 x4_2 y167 (y167.length : Int) x24_2 true ((rd_T27 y167 x24_2).f0) ((rd_T27 y167 x24_2).f1) ((rd_T27 y167 x24_2).f2) ((rd_T27 y167 x24_2).f3) ((rd_T27 y167 x24_2).f4) ((rd_T27 y167 x24_2).f5)) else ((layout_Open.f ((rd_T27 y167 x24_2).f0) ((rd_T27 y167 x24_2).f1) ((rd_T27 y167 x24_2).f2) ((rd_T27 y167 x24_2).f3) ((rd_T27 y167 x24_2).f4) ((rd_T27 y167 x24_2).f5)).bind fun t178 => (if t178 = true then (passepartoutlaw04_FormRows.j2 k2 y167 x3_2 x4_2 y167 (y167.length : Int) x24_2 (decide ((wrap64 (x24_2 + 1)) < (y167.length : Int))) ((rd_T27 y167 x24_2).f0) ((rd_T27 y167 x24_2).f1) ((rd_T27 y167 x24_2).f2) ((rd_T27 y167 x24_2).f3) ((rd_T27 y167 x24_2).f4) ((rd_T27 y167 x24_2).f5)) else (passepartoutlaw04_FormRows.j2 k2 y167 x3_2 x4_2 y167 (y167.length : Int) x24_2 false ((rd_T27 y167 x24_2).f0) ((rd_T27 y167 x24_2).f1) ((rd_T27 y167 x24_2).f2) ((rd_T27 y167 x24_2).f3) ((rd_T27 y167 x24_2).f4) ((rd_T27 y167 x24_2).f5)))))) else (passepartoutlaw04_FormRows.j2 k2 y167 x3_2 x4_2 y167 (y167.length : Int) x24_2 true ((rd_T27 y167 x24_2).f0) ((rd_T27 y167 x24_2).f1) ((rd_T27 y167 x24_2).f2) ((rd_T27 y167 x24_2).f3) ((rd_T27 y167 x24_2).f4) ((rd_T27 y167 x24_2).f5))) = some r := H
                        have A22 := Aside0.mk A220
                        clear A220
                        by_cases c23 : t176 = 0
                        · rw [if_pos c23] at H
                          have c23b0 : (t176 == 0) = true := beq_iff_eq.mpr c23
                          have c23b1 : (t176 != 0) = false := bne_eq_false_iff_eq.mpr c23
                          clear c23
                          (first | rw [c23b0] | (simp only [i64_w, i32_w]; rw [c23b0]) | skip)
                          replace H := Option.bind_eq_some_iff.mp H
                          obtain ⟨t177, A240, H⟩ := H
                          replace H : (if t177 > 6 then (passepartoutlaw04_FormRows.j2 k2 y167 x3_2 x4_2 y167 (y167.length : Int) x24_2 true ((rd_T27 y167 x24_2).f0) ((rd_T27 y167 x24_2).f1) ((rd_T27 y167 x24_2).f2) ((rd_T27 y167 x24_2).f3) ((rd_T27 y167 x24_2).f4) ((rd_T27 y167 x24_2).f5)) else ((layout_Open.f ((rd_T27 y167 x24_2).f0) ((rd_T27 y167 x24_2).f1) ((rd_T27 y167 x24_2).f2) ((rd_T27 y167 x24_2).f3) ((rd_T27 y167 x24_2).f4) ((rd_T27 y167 x24_2).f5)).bind fun t178 => (if t178 = true then (passepartoutlaw04_FormRows.j2 k2 y167 x3_2 x4_2 y167 (y167.length : Int) x24_2 (decide ((wrap64 (x24_2 + 1)) < (y167.length : Int))) ((rd_T27 y167 x24_2).f0) ((rd_T27 y167 x24_2).f1) ((rd_T27 y167 x24_2).f2) ((rd_T27 y167 x24_2).f3) ((rd_T27 y167 x24_2).f4) ((rd_T27 y167 x24_2).f5)) else (passepartoutlaw04_FormRows.j2 k2 y167 x3_2 x4_2 y167 (y167.length : Int) x24_2 false ((rd_T27 y167 x24_2).f0) ((rd_T27 y167 x24_2).f1) ((rd_T27 y167 x24_2).f2) ((rd_T27 y167 x24_2).f3) ((rd_T27 y167 x24_2).f4) ((rd_T27 y167 x24_2).f5))))) = some r := H
                          have A24 := Aside0.mk A240
                          clear A240
                          by_cases c25 : t177 > 6
                          · rw [if_pos c25] at H
                            have c25b0 : decide (6 < t177) = true := decide_eq_true c25
                            clear c25
                            have H' := Aside0.mk H
                            clear H
                            have hcz26_0 : w20.cell? ⟨gb175, 0, none⟩ = some (.int .i64 0) := (blk_cell BK175.out 0).trans rfl
                            have hcz26_1 : w20.cell? ⟨gb175, 1, none⟩ = some (.int .i64 0) := (blk_cell BK175.out 1).trans rfl
                            have hcz26_2 : w20.cell? ⟨gb175, 2, none⟩ = some (.int .i64 0) := (blk_cell BK175.out 2).trans rfl
                            have hcz26_3 : w20.cell? ⟨gb175, 3, none⟩ = some (.int .i64 0) := (blk_cell BK175.out 3).trans rfl
                            have hcz26_4 : w20.cell? ⟨gb175, 4, none⟩ = some (.int .i64 0) := (blk_cell BK175.out 4).trans rfl
                            have hcz26_5 : w20.cell? ⟨gb175, 5, none⟩ = some (.slice none 0 0) := (blk_cell BK175.out 5).trans rfl
                            have hfz26_0 := blk_frozen BK175.out 0
                            have hfz26_1 := blk_frozen BK175.out 1
                            have hfz26_2 := blk_frozen BK175.out 2
                            have hfz26_3 := blk_frozen BK175.out 3
                            have hfz26_4 := blk_frozen BK175.out 4
                            have hfz26_5 := blk_frozen BK175.out 5
                            go_wp2_with (first | ((with_reducible refine gate_callee (f := 21) rfl ?_); refine goesL_ (some 30) rfl rfl Try.func21 (by kernel_rfl) rfl #[.agg #[.int .i64 ((rd_T27 y167 x24_2).f0), .int .i64 ((rd_T27 y167 x24_2).f1), .int .i64 ((rd_T27 y167 x24_2).f2), .int .i64 ((rd_T27 y167 x24_2).f3), .int .i64 ((rd_T27 y167 x24_2).f4), .slice A174_5 ((rd_T27 y167 x24_2).f5).length c174_5]] rfl (by (try simp only [List.map_toArray, List.map_cons, List.map_nil]); first | done | rfl | (simp only [List.length_drop, List.length_take]; rfl)) ?_; (with_reducible refine (passepartoutref04_Check.calls k2 ((rd_T27 y167 x24_2).f0) ((rd_T27 y167 x24_2).f1) ((rd_T27 y167 x24_2).f2) ((rd_T27 y167 x24_2).f3) ((rd_T27 y167 x24_2).f4) _ _ ((rd_T27 y167 x24_2).f5) t176 _ ?side1 ?side2 A22.out).mono ?_); (case side1 => exact Kd.C_below HR174_5.out (by repeat (first | (with_reducible first | exact HB.out | apply below_alloc | apply pw_below_drewN | apply below_drew1 | refine below_set ?_ GE175.out) | exact HB.out))); (case side2 => exact HC174_5.out); rintro e w27 ⟨rfl, hb⟩; refine ⟨_, rfl, ?_⟩; have n0_ := Aside0.mk (blk_below (g := gb175) (o := .cells #[.int .i64 ((rd_T27 y167 x24_2).f0), .int .i64 ((rd_T27 y167 x24_2).f1), .int .i64 ((rd_T27 y167 x24_2).f2), .int .i64 ((rd_T27 y167 x24_2).f3), .int .i64 ((rd_T27 y167 x24_2).f4), .slice A174_5 ((rd_T27 y167 x24_2).f5).length c174_5] 27 (0, 0)) (by (with_reducible repeat (first | refine blk_drewN ?_ _ | refine blk_drew ?_ | refine blk_alloc ?_ _)); refine blk_put (cs := #[.int .i64 ((rd_T27 y167 x24_2).f0), .int .i64 ((rd_T27 y167 x24_2).f1), .int .i64 ((rd_T27 y167 x24_2).f2), .int .i64 ((rd_T27 y167 x24_2).f3), .int .i64 ((rd_T27 y167 x24_2).f4), .slice none 0 0]) ?_ 5 _ rfl; (with_reducible repeat (first | refine blk_drewN ?_ _ | refine blk_drew ?_ | refine blk_alloc ?_ _)); refine blk_put (cs := #[.int .i64 ((rd_T27 y167 x24_2).f0), .int .i64 ((rd_T27 y167 x24_2).f1), .int .i64 ((rd_T27 y167 x24_2).f2), .int .i64 ((rd_T27 y167 x24_2).f3), .int .i64 0, .slice none 0 0]) ?_ 4 _ rfl; (with_reducible repeat (first | refine blk_drewN ?_ _ | refine blk_drew ?_ | refine blk_alloc ?_ _)); refine blk_put (cs := #[.int .i64 ((rd_T27 y167 x24_2).f0), .int .i64 ((rd_T27 y167 x24_2).f1), .int .i64 ((rd_T27 y167 x24_2).f2), .int .i64 0, .int .i64 0, .slice none 0 0]) ?_ 3 _ rfl; (with_reducible repeat (first | refine blk_drewN ?_ _ | refine blk_drew ?_ | refine blk_alloc ?_ _)); refine blk_put (cs := #[.int .i64 ((rd_T27 y167 x24_2).f0), .int .i64 ((rd_T27 y167 x24_2).f1), .int .i64 0, .int .i64 0, .int .i64 0, .slice none 0 0]) ?_ 2 _ rfl; (with_reducible repeat (first | refine blk_drewN ?_ _ | refine blk_drew ?_ | refine blk_alloc ?_ _)); refine blk_put (cs := #[.int .i64 ((rd_T27 y167 x24_2).f0), .int .i64 0, .int .i64 0, .int .i64 0, .int .i64 0, .slice none 0 0]) ?_ 1 _ rfl; (with_reducible repeat (first | refine blk_drewN ?_ _ | refine blk_drew ?_ | refine blk_alloc ?_ _)); refine blk_put (cs := #[.int .i64 0, .int .i64 0, .int .i64 0, .int .i64 0, .int .i64 0, .slice none 0 0]) ?_ 0 _ rfl; (with_reducible repeat (first | refine blk_drewN ?_ _ | refine blk_drew ?_ | refine blk_alloc ?_ _)); exact BK175.out) hb); have n1_ := Aside0.mk (below_step (by repeat (first | (with_reducible first | exact HB.out | apply below_alloc | apply pw_below_drewN | apply below_drew1 | refine below_set ?_ GE175.out) | exact HB.out)) hb); clear BK175; clear HB; have BK175 := n0_; have HB := n1_; clear n0_ n1_; (try clear hb); (try clear hb2); (try clear hk); (try clear hi); have hcz28_0 : w27.cell? ⟨gb175, 0, none⟩ = some (.int .i64 ((rd_T27 y167 x24_2).f0)) := (blk_cell BK175.out 0).trans rfl; have hcz28_1 : w27.cell? ⟨gb175, 1, none⟩ = some (.int .i64 ((rd_T27 y167 x24_2).f1)) := (blk_cell BK175.out 1).trans rfl; have hcz28_2 : w27.cell? ⟨gb175, 2, none⟩ = some (.int .i64 ((rd_T27 y167 x24_2).f2)) := (blk_cell BK175.out 2).trans rfl; have hcz28_3 : w27.cell? ⟨gb175, 3, none⟩ = some (.int .i64 ((rd_T27 y167 x24_2).f3)) := (blk_cell BK175.out 3).trans rfl; have hcz28_4 : w27.cell? ⟨gb175, 4, none⟩ = some (.int .i64 ((rd_T27 y167 x24_2).f4)) := (blk_cell BK175.out 4).trans rfl; have hcz28_5 : w27.cell? ⟨gb175, 5, none⟩ = some (.slice A174_5 ((rd_T27 y167 x24_2).f5).length c174_5) := (blk_cell BK175.out 5).trans rfl; have hfz28_0 := blk_frozen BK175.out 0; have hfz28_1 := blk_frozen BK175.out 1; have hfz28_2 := blk_frozen BK175.out 2; have hfz28_3 := blk_frozen BK175.out 3; have hfz28_4 := blk_frozen BK175.out 4; have hfz28_5 := blk_frozen BK175.out 5) | (go_at_call 22; (with_reducible refine (passepartoutref04_Depth.calls k2 ((rd_T27 y167 x24_2).f0) ((rd_T27 y167 x24_2).f1) ((rd_T27 y167 x24_2).f2) ((rd_T27 y167 x24_2).f3) ((rd_T27 y167 x24_2).f4) _ _ ((rd_T27 y167 x24_2).f5) 9 t177 _ ?side1 ?side2 A24.out).mono ?_); (case side1 => repeat (first | exact (Kd.C_below HR174_5.out HB.out) | (with_reducible refine Kd.C_alloc ?_ _) | (with_reducible refine Kd.C_drewN ?_ _) | (with_reducible refine Kd.C_drew ?_))); (case side2 => exact HC174_5.out); rintro e w29 ⟨rfl, hb⟩; have n0_ := Aside0.mk (blk_below (g := gb175) (o := .cells #[.int .i64 ((rd_T27 y167 x24_2).f0), .int .i64 ((rd_T27 y167 x24_2).f1), .int .i64 ((rd_T27 y167 x24_2).f2), .int .i64 ((rd_T27 y167 x24_2).f3), .int .i64 ((rd_T27 y167 x24_2).f4), .slice A174_5 ((rd_T27 y167 x24_2).f5).length c174_5] 27 (0, 0)) (by (with_reducible repeat (first | refine blk_drewN ?_ _ | refine blk_drew ?_ | refine blk_alloc ?_ _)); exact BK175.out) hb); have n1_ := Aside0.mk (below_step (by repeat (first | (with_reducible first | exact HB.out | apply below_alloc | apply pw_below_drewN | apply below_drew1 | refine below_set ?_ GE175.out) | exact HB.out)) hb); clear BK175; clear HB; have BK175 := n0_; have HB := n1_; clear n0_ n1_; (try clear hb); (try clear hb2); (try clear hk); (try clear hi)))
                            go_meet
                            case rel => exact ⟨_, (true), (by first | rfl | (simp; done) | (simp [*]; done)), H', ⟨by have := HJ4.out; have := HK2.out; first | omega | exact Nat.le_refl _⟩, ⟨by (with_reducible repeat (first | refine blk_drewN ?_ _ | refine blk_drew ?_ | refine blk_alloc ?_ _)); exact BK175.out⟩, ⟨by repeat (first | (with_reducible first | exact HB.out | apply below_alloc | apply pw_below_drewN | apply below_drew1 | refine below_set ?_ GE175.out) | exact HB.out)⟩⟩
                          · rw [if_neg c25] at H
                            have c25b0 : decide (6 < t177) = false := decide_eq_false c25
                            clear c25
                            replace H := Option.bind_eq_some_iff.mp H
                            obtain ⟨t178, A300, H⟩ := H
                            replace H : (if t178 = true then (passepartoutlaw04_FormRows.j2 k2 y167 x3_2 x4_2 y167 (y167.length : Int) x24_2 (decide ((wrap64 (x24_2 + 1)) < (y167.length : Int))) ((rd_T27 y167 x24_2).f0) ((rd_T27 y167 x24_2).f1) ((rd_T27 y167 x24_2).f2) ((rd_T27 y167 x24_2).f3) ((rd_T27 y167 x24_2).f4) ((rd_T27 y167 x24_2).f5)) else (passepartoutlaw04_FormRows.j2 k2 y167 x3_2 x4_2 y167 (y167.length : Int) x24_2 false ((rd_T27 y167 x24_2).f0) ((rd_T27 y167 x24_2).f1) ((rd_T27 y167 x24_2).f2) ((rd_T27 y167 x24_2).f3) ((rd_T27 y167 x24_2).f4) ((rd_T27 y167 x24_2).f5))) = some r := H
                            have A30 := Aside0.mk A300
                            clear A300
                            by_cases c31 : t178 = true
                            · subst c31
                              have H1 : (passepartoutlaw04_FormRows.j2 k2 y167 x3_2 x4_2 y167 (y167.length : Int) x24_2 (decide ((wrap64 (x24_2 + 1)) < (y167.length : Int))) ((rd_T27 y167 x24_2).f0) ((rd_T27 y167 x24_2).f1) ((rd_T27 y167 x24_2).f2) ((rd_T27 y167 x24_2).f3) ((rd_T27 y167 x24_2).f4) ((rd_T27 y167 x24_2).f5)) = some r := by rw [if_pos rfl] at H; exact H
                              clear H
                              have H := H1
                              clear H1
                              have H' := Aside0.mk H
                              clear H
                              have hcz32_0 : w20.cell? ⟨gb175, 0, none⟩ = some (.int .i64 0) := (blk_cell BK175.out 0).trans rfl
                              have hcz32_1 : w20.cell? ⟨gb175, 1, none⟩ = some (.int .i64 0) := (blk_cell BK175.out 1).trans rfl
                              have hcz32_2 : w20.cell? ⟨gb175, 2, none⟩ = some (.int .i64 0) := (blk_cell BK175.out 2).trans rfl
                              have hcz32_3 : w20.cell? ⟨gb175, 3, none⟩ = some (.int .i64 0) := (blk_cell BK175.out 3).trans rfl
                              have hcz32_4 : w20.cell? ⟨gb175, 4, none⟩ = some (.int .i64 0) := (blk_cell BK175.out 4).trans rfl
                              have hcz32_5 : w20.cell? ⟨gb175, 5, none⟩ = some (.slice none 0 0) := (blk_cell BK175.out 5).trans rfl
                              have hfz32_0 := blk_frozen BK175.out 0
                              have hfz32_1 := blk_frozen BK175.out 1
                              have hfz32_2 := blk_frozen BK175.out 2
                              have hfz32_3 := blk_frozen BK175.out 3
                              have hfz32_4 := blk_frozen BK175.out 4
                              have hfz32_5 := blk_frozen BK175.out 5
                              go_wp2_with (first | ((with_reducible refine gate_callee (f := 21) rfl ?_); refine goesL_ (some 30) rfl rfl Try.func21 (by kernel_rfl) rfl #[.agg #[.int .i64 ((rd_T27 y167 x24_2).f0), .int .i64 ((rd_T27 y167 x24_2).f1), .int .i64 ((rd_T27 y167 x24_2).f2), .int .i64 ((rd_T27 y167 x24_2).f3), .int .i64 ((rd_T27 y167 x24_2).f4), .slice A174_5 ((rd_T27 y167 x24_2).f5).length c174_5]] rfl (by (try simp only [List.map_toArray, List.map_cons, List.map_nil]); first | done | rfl | (simp only [List.length_drop, List.length_take]; rfl)) ?_; (with_reducible refine (passepartoutref04_Check.calls k2 ((rd_T27 y167 x24_2).f0) ((rd_T27 y167 x24_2).f1) ((rd_T27 y167 x24_2).f2) ((rd_T27 y167 x24_2).f3) ((rd_T27 y167 x24_2).f4) _ _ ((rd_T27 y167 x24_2).f5) t176 _ ?side1 ?side2 A22.out).mono ?_); (case side1 => exact Kd.C_below HR174_5.out (by repeat (first | (with_reducible first | exact HB.out | apply below_alloc | apply pw_below_drewN | apply below_drew1 | refine below_set ?_ GE175.out) | exact HB.out))); (case side2 => exact HC174_5.out); rintro e w33 ⟨rfl, hb⟩; refine ⟨_, rfl, ?_⟩; have n0_ := Aside0.mk (blk_below (g := gb175) (o := .cells #[.int .i64 ((rd_T27 y167 x24_2).f0), .int .i64 ((rd_T27 y167 x24_2).f1), .int .i64 ((rd_T27 y167 x24_2).f2), .int .i64 ((rd_T27 y167 x24_2).f3), .int .i64 ((rd_T27 y167 x24_2).f4), .slice A174_5 ((rd_T27 y167 x24_2).f5).length c174_5] 27 (0, 0)) (by (with_reducible repeat (first | refine blk_drewN ?_ _ | refine blk_drew ?_ | refine blk_alloc ?_ _)); refine blk_put (cs := #[.int .i64 ((rd_T27 y167 x24_2).f0), .int .i64 ((rd_T27 y167 x24_2).f1), .int .i64 ((rd_T27 y167 x24_2).f2), .int .i64 ((rd_T27 y167 x24_2).f3), .int .i64 ((rd_T27 y167 x24_2).f4), .slice none 0 0]) ?_ 5 _ rfl; (with_reducible repeat (first | refine blk_drewN ?_ _ | refine blk_drew ?_ | refine blk_alloc ?_ _)); refine blk_put (cs := #[.int .i64 ((rd_T27 y167 x24_2).f0), .int .i64 ((rd_T27 y167 x24_2).f1), .int .i64 ((rd_T27 y167 x24_2).f2), .int .i64 ((rd_T27 y167 x24_2).f3), .int .i64 0, .slice none 0 0]) ?_ 4 _ rfl; (with_reducible repeat (first | refine blk_drewN ?_ _ | refine blk_drew ?_ | refine blk_alloc ?_ _)); refine blk_put (cs := #[.int .i64 ((rd_T27 y167 x24_2).f0), .int .i64 ((rd_T27 y167 x24_2).f1), .int .i64 ((rd_T27 y167 x24_2).f2), .int .i64 0, .int .i64 0, .slice none 0 0]) ?_ 3 _ rfl; (with_reducible repeat (first | refine blk_drewN ?_ _ | refine blk_drew ?_ | refine blk_alloc ?_ _)); refine blk_put (cs := #[.int .i64 ((rd_T27 y167 x24_2).f0), .int .i64 ((rd_T27 y167 x24_2).f1), .int .i64 0, .int .i64 0, .int .i64 0, .slice none 0 0]) ?_ 2 _ rfl; (with_reducible repeat (first | refine blk_drewN ?_ _ | refine blk_drew ?_ | refine blk_alloc ?_ _)); refine blk_put (cs := #[.int .i64 ((rd_T27 y167 x24_2).f0), .int .i64 0, .int .i64 0, .int .i64 0, .int .i64 0, .slice none 0 0]) ?_ 1 _ rfl; (with_reducible repeat (first | refine blk_drewN ?_ _ | refine blk_drew ?_ | refine blk_alloc ?_ _)); refine blk_put (cs := #[.int .i64 0, .int .i64 0, .int .i64 0, .int .i64 0, .int .i64 0, .slice none 0 0]) ?_ 0 _ rfl; (with_reducible repeat (first | refine blk_drewN ?_ _ | refine blk_drew ?_ | refine blk_alloc ?_ _)); exact BK175.out) hb); have n1_ := Aside0.mk (below_step (by repeat (first | (with_reducible first | exact HB.out | apply below_alloc | apply pw_below_drewN | apply below_drew1 | refine below_set ?_ GE175.out) | exact HB.out)) hb); clear BK175; clear HB; have BK175 := n0_; have HB := n1_; clear n0_ n1_; (try clear hb); (try clear hb2); (try clear hk); (try clear hi); have hcz34_0 : w33.cell? ⟨gb175, 0, none⟩ = some (.int .i64 ((rd_T27 y167 x24_2).f0)) := (blk_cell BK175.out 0).trans rfl; have hcz34_1 : w33.cell? ⟨gb175, 1, none⟩ = some (.int .i64 ((rd_T27 y167 x24_2).f1)) := (blk_cell BK175.out 1).trans rfl; have hcz34_2 : w33.cell? ⟨gb175, 2, none⟩ = some (.int .i64 ((rd_T27 y167 x24_2).f2)) := (blk_cell BK175.out 2).trans rfl; have hcz34_3 : w33.cell? ⟨gb175, 3, none⟩ = some (.int .i64 ((rd_T27 y167 x24_2).f3)) := (blk_cell BK175.out 3).trans rfl; have hcz34_4 : w33.cell? ⟨gb175, 4, none⟩ = some (.int .i64 ((rd_T27 y167 x24_2).f4)) := (blk_cell BK175.out 4).trans rfl; have hcz34_5 : w33.cell? ⟨gb175, 5, none⟩ = some (.slice A174_5 ((rd_T27 y167 x24_2).f5).length c174_5) := (blk_cell BK175.out 5).trans rfl; have hfz34_0 := blk_frozen BK175.out 0; have hfz34_1 := blk_frozen BK175.out 1; have hfz34_2 := blk_frozen BK175.out 2; have hfz34_3 := blk_frozen BK175.out 3; have hfz34_4 := blk_frozen BK175.out 4; have hfz34_5 := blk_frozen BK175.out 5) | (go_at_call 22; (with_reducible refine (passepartoutref04_Depth.calls k2 ((rd_T27 y167 x24_2).f0) ((rd_T27 y167 x24_2).f1) ((rd_T27 y167 x24_2).f2) ((rd_T27 y167 x24_2).f3) ((rd_T27 y167 x24_2).f4) _ _ ((rd_T27 y167 x24_2).f5) 9 t177 _ ?side1 ?side2 A24.out).mono ?_); (case side1 => repeat (first | exact (Kd.C_below HR174_5.out HB.out) | (with_reducible refine Kd.C_alloc ?_ _) | (with_reducible refine Kd.C_drewN ?_ _) | (with_reducible refine Kd.C_drew ?_))); (case side2 => exact HC174_5.out); rintro e w35 ⟨rfl, hb⟩; have n0_ := Aside0.mk (blk_below (g := gb175) (o := .cells #[.int .i64 ((rd_T27 y167 x24_2).f0), .int .i64 ((rd_T27 y167 x24_2).f1), .int .i64 ((rd_T27 y167 x24_2).f2), .int .i64 ((rd_T27 y167 x24_2).f3), .int .i64 ((rd_T27 y167 x24_2).f4), .slice A174_5 ((rd_T27 y167 x24_2).f5).length c174_5] 27 (0, 0)) (by (with_reducible repeat (first | refine blk_drewN ?_ _ | refine blk_drew ?_ | refine blk_alloc ?_ _)); exact BK175.out) hb); have n1_ := Aside0.mk (below_step (by repeat (first | (with_reducible first | exact HB.out | apply below_alloc | apply pw_below_drewN | apply below_drew1 | refine below_set ?_ GE175.out) | exact HB.out)) hb); clear BK175; clear HB; have BK175 := n0_; have HB := n1_; clear n0_ n1_; (try clear hb); (try clear hb2); (try clear hk); (try clear hi); have hcz36_0 : w35.cell? ⟨gb175, 0, none⟩ = some (.int .i64 ((rd_T27 y167 x24_2).f0)) := (blk_cell BK175.out 0).trans rfl; have hcz36_1 : w35.cell? ⟨gb175, 1, none⟩ = some (.int .i64 ((rd_T27 y167 x24_2).f1)) := (blk_cell BK175.out 1).trans rfl; have hcz36_2 : w35.cell? ⟨gb175, 2, none⟩ = some (.int .i64 ((rd_T27 y167 x24_2).f2)) := (blk_cell BK175.out 2).trans rfl; have hcz36_3 : w35.cell? ⟨gb175, 3, none⟩ = some (.int .i64 ((rd_T27 y167 x24_2).f3)) := (blk_cell BK175.out 3).trans rfl; have hcz36_4 : w35.cell? ⟨gb175, 4, none⟩ = some (.int .i64 ((rd_T27 y167 x24_2).f4)) := (blk_cell BK175.out 4).trans rfl; have hcz36_5 : w35.cell? ⟨gb175, 5, none⟩ = some (.slice A174_5 ((rd_T27 y167 x24_2).f5).length c174_5) := (blk_cell BK175.out 5).trans rfl; have hfz36_0 := blk_frozen BK175.out 0; have hfz36_1 := blk_frozen BK175.out 1; have hfz36_2 := blk_frozen BK175.out 2; have hfz36_3 := blk_frozen BK175.out 3; have hfz36_4 := blk_frozen BK175.out 4; have hfz36_5 := blk_frozen BK175.out 5) | (go_at_call 23; (with_reducible refine (layout_Open.calls ((rd_T27 y167 x24_2).f0) ((rd_T27 y167 x24_2).f1) ((rd_T27 y167 x24_2).f2) ((rd_T27 y167 x24_2).f3) ((rd_T27 y167 x24_2).f4) _ _ ((rd_T27 y167 x24_2).f5) true _ ?side1 ?side2 A30.out).mono ?_); (case side1 => repeat (first | exact (Kd.C_below HR174_5.out HB.out) | (with_reducible refine Kd.C_alloc ?_ _) | (with_reducible refine Kd.C_drewN ?_ _) | (with_reducible refine Kd.C_drew ?_))); (case side2 => exact HC174_5.out); rintro e w37 ⟨rfl, hb⟩; have n0_ := Aside0.mk (blk_below (g := gb175) (o := .cells #[.int .i64 ((rd_T27 y167 x24_2).f0), .int .i64 ((rd_T27 y167 x24_2).f1), .int .i64 ((rd_T27 y167 x24_2).f2), .int .i64 ((rd_T27 y167 x24_2).f3), .int .i64 ((rd_T27 y167 x24_2).f4), .slice A174_5 ((rd_T27 y167 x24_2).f5).length c174_5] 27 (0, 0)) (by (with_reducible repeat (first | refine blk_drewN ?_ _ | refine blk_drew ?_ | refine blk_alloc ?_ _)); exact BK175.out) hb); have n1_ := Aside0.mk (below_step (by repeat (first | (with_reducible first | exact HB.out | apply below_alloc | apply pw_below_drewN | apply below_drew1 | refine below_set ?_ GE175.out) | exact HB.out)) hb); clear BK175; clear HB; have BK175 := n0_; have HB := n1_; clear n0_ n1_; (try clear hb); (try clear hb2); (try clear hk); (try clear hi)))
                              go_meet
                              case rel => exact ⟨_, (decide ((wrap64 (x24_2 + 1)) < (y167.length : Int))), (by first | rfl | (simp; done) | (simp [*]; done)), H', ⟨by have := HJ4.out; have := HK2.out; first | omega | exact Nat.le_refl _⟩, ⟨by (with_reducible repeat (first | refine blk_drewN ?_ _ | refine blk_drew ?_ | refine blk_alloc ?_ _)); exact BK175.out⟩, ⟨by repeat (first | (with_reducible first | exact HB.out | apply below_alloc | apply pw_below_drewN | apply below_drew1 | refine below_set ?_ GE175.out) | exact HB.out)⟩⟩
                            · replace c31 := Bool.eq_false_iff.mpr c31
                              subst c31
                              have H1 : (passepartoutlaw04_FormRows.j2 k2 y167 x3_2 x4_2 y167 (y167.length : Int) x24_2 false ((rd_T27 y167 x24_2).f0) ((rd_T27 y167 x24_2).f1) ((rd_T27 y167 x24_2).f2) ((rd_T27 y167 x24_2).f3) ((rd_T27 y167 x24_2).f4) ((rd_T27 y167 x24_2).f5)) = some r := by rw [if_neg (show ¬ (false = true) by decide)] at H; exact H
                              clear H
                              have H := H1
                              clear H1
                              have H' := Aside0.mk H
                              clear H
                              have hcz38_0 : w20.cell? ⟨gb175, 0, none⟩ = some (.int .i64 0) := (blk_cell BK175.out 0).trans rfl
                              have hcz38_1 : w20.cell? ⟨gb175, 1, none⟩ = some (.int .i64 0) := (blk_cell BK175.out 1).trans rfl
                              have hcz38_2 : w20.cell? ⟨gb175, 2, none⟩ = some (.int .i64 0) := (blk_cell BK175.out 2).trans rfl
                              have hcz38_3 : w20.cell? ⟨gb175, 3, none⟩ = some (.int .i64 0) := (blk_cell BK175.out 3).trans rfl
                              have hcz38_4 : w20.cell? ⟨gb175, 4, none⟩ = some (.int .i64 0) := (blk_cell BK175.out 4).trans rfl
                              have hcz38_5 : w20.cell? ⟨gb175, 5, none⟩ = some (.slice none 0 0) := (blk_cell BK175.out 5).trans rfl
                              have hfz38_0 := blk_frozen BK175.out 0
                              have hfz38_1 := blk_frozen BK175.out 1
                              have hfz38_2 := blk_frozen BK175.out 2
                              have hfz38_3 := blk_frozen BK175.out 3
                              have hfz38_4 := blk_frozen BK175.out 4
                              have hfz38_5 := blk_frozen BK175.out 5
                              go_wp2_with (first | ((with_reducible refine gate_callee (f := 21) rfl ?_); refine goesL_ (some 30) rfl rfl Try.func21 (by kernel_rfl) rfl #[.agg #[.int .i64 ((rd_T27 y167 x24_2).f0), .int .i64 ((rd_T27 y167 x24_2).f1), .int .i64 ((rd_T27 y167 x24_2).f2), .int .i64 ((rd_T27 y167 x24_2).f3), .int .i64 ((rd_T27 y167 x24_2).f4), .slice A174_5 ((rd_T27 y167 x24_2).f5).length c174_5]] rfl (by (try simp only [List.map_toArray, List.map_cons, List.map_nil]); first | done | rfl | (simp only [List.length_drop, List.length_take]; rfl)) ?_; (with_reducible refine (passepartoutref04_Check.calls k2 ((rd_T27 y167 x24_2).f0) ((rd_T27 y167 x24_2).f1) ((rd_T27 y167 x24_2).f2) ((rd_T27 y167 x24_2).f3) ((rd_T27 y167 x24_2).f4) _ _ ((rd_T27 y167 x24_2).f5) t176 _ ?side1 ?side2 A22.out).mono ?_); (case side1 => exact Kd.C_below HR174_5.out (by repeat (first | (with_reducible first | exact HB.out | apply below_alloc | apply pw_below_drewN | apply below_drew1 | refine below_set ?_ GE175.out) | exact HB.out))); (case side2 => exact HC174_5.out); rintro e w39 ⟨rfl, hb⟩; refine ⟨_, rfl, ?_⟩; have n0_ := Aside0.mk (blk_below (g := gb175) (o := .cells #[.int .i64 ((rd_T27 y167 x24_2).f0), .int .i64 ((rd_T27 y167 x24_2).f1), .int .i64 ((rd_T27 y167 x24_2).f2), .int .i64 ((rd_T27 y167 x24_2).f3), .int .i64 ((rd_T27 y167 x24_2).f4), .slice A174_5 ((rd_T27 y167 x24_2).f5).length c174_5] 27 (0, 0)) (by (with_reducible repeat (first | refine blk_drewN ?_ _ | refine blk_drew ?_ | refine blk_alloc ?_ _)); refine blk_put (cs := #[.int .i64 ((rd_T27 y167 x24_2).f0), .int .i64 ((rd_T27 y167 x24_2).f1), .int .i64 ((rd_T27 y167 x24_2).f2), .int .i64 ((rd_T27 y167 x24_2).f3), .int .i64 ((rd_T27 y167 x24_2).f4), .slice none 0 0]) ?_ 5 _ rfl; (with_reducible repeat (first | refine blk_drewN ?_ _ | refine blk_drew ?_ | refine blk_alloc ?_ _)); refine blk_put (cs := #[.int .i64 ((rd_T27 y167 x24_2).f0), .int .i64 ((rd_T27 y167 x24_2).f1), .int .i64 ((rd_T27 y167 x24_2).f2), .int .i64 ((rd_T27 y167 x24_2).f3), .int .i64 0, .slice none 0 0]) ?_ 4 _ rfl; (with_reducible repeat (first | refine blk_drewN ?_ _ | refine blk_drew ?_ | refine blk_alloc ?_ _)); refine blk_put (cs := #[.int .i64 ((rd_T27 y167 x24_2).f0), .int .i64 ((rd_T27 y167 x24_2).f1), .int .i64 ((rd_T27 y167 x24_2).f2), .int .i64 0, .int .i64 0, .slice none 0 0]) ?_ 3 _ rfl; (with_reducible repeat (first | refine blk_drewN ?_ _ | refine blk_drew ?_ | refine blk_alloc ?_ _)); refine blk_put (cs := #[.int .i64 ((rd_T27 y167 x24_2).f0), .int .i64 ((rd_T27 y167 x24_2).f1), .int .i64 0, .int .i64 0, .int .i64 0, .slice none 0 0]) ?_ 2 _ rfl; (with_reducible repeat (first | refine blk_drewN ?_ _ | refine blk_drew ?_ | refine blk_alloc ?_ _)); refine blk_put (cs := #[.int .i64 ((rd_T27 y167 x24_2).f0), .int .i64 0, .int .i64 0, .int .i64 0, .int .i64 0, .slice none 0 0]) ?_ 1 _ rfl; (with_reducible repeat (first | refine blk_drewN ?_ _ | refine blk_drew ?_ | refine blk_alloc ?_ _)); refine blk_put (cs := #[.int .i64 0, .int .i64 0, .int .i64 0, .int .i64 0, .int .i64 0, .slice none 0 0]) ?_ 0 _ rfl; (with_reducible repeat (first | refine blk_drewN ?_ _ | refine blk_drew ?_ | refine blk_alloc ?_ _)); exact BK175.out) hb); have n1_ := Aside0.mk (below_step (by repeat (first | (with_reducible first | exact HB.out | apply below_alloc | apply pw_below_drewN | apply below_drew1 | refine below_set ?_ GE175.out) | exact HB.out)) hb); clear BK175; clear HB; have BK175 := n0_; have HB := n1_; clear n0_ n1_; (try clear hb); (try clear hb2); (try clear hk); (try clear hi); have hcz40_0 : w39.cell? ⟨gb175, 0, none⟩ = some (.int .i64 ((rd_T27 y167 x24_2).f0)) := (blk_cell BK175.out 0).trans rfl; have hcz40_1 : w39.cell? ⟨gb175, 1, none⟩ = some (.int .i64 ((rd_T27 y167 x24_2).f1)) := (blk_cell BK175.out 1).trans rfl; have hcz40_2 : w39.cell? ⟨gb175, 2, none⟩ = some (.int .i64 ((rd_T27 y167 x24_2).f2)) := (blk_cell BK175.out 2).trans rfl; have hcz40_3 : w39.cell? ⟨gb175, 3, none⟩ = some (.int .i64 ((rd_T27 y167 x24_2).f3)) := (blk_cell BK175.out 3).trans rfl; have hcz40_4 : w39.cell? ⟨gb175, 4, none⟩ = some (.int .i64 ((rd_T27 y167 x24_2).f4)) := (blk_cell BK175.out 4).trans rfl; have hcz40_5 : w39.cell? ⟨gb175, 5, none⟩ = some (.slice A174_5 ((rd_T27 y167 x24_2).f5).length c174_5) := (blk_cell BK175.out 5).trans rfl; have hfz40_0 := blk_frozen BK175.out 0; have hfz40_1 := blk_frozen BK175.out 1; have hfz40_2 := blk_frozen BK175.out 2; have hfz40_3 := blk_frozen BK175.out 3; have hfz40_4 := blk_frozen BK175.out 4; have hfz40_5 := blk_frozen BK175.out 5) | (go_at_call 22; (with_reducible refine (passepartoutref04_Depth.calls k2 ((rd_T27 y167 x24_2).f0) ((rd_T27 y167 x24_2).f1) ((rd_T27 y167 x24_2).f2) ((rd_T27 y167 x24_2).f3) ((rd_T27 y167 x24_2).f4) _ _ ((rd_T27 y167 x24_2).f5) 9 t177 _ ?side1 ?side2 A24.out).mono ?_); (case side1 => repeat (first | exact (Kd.C_below HR174_5.out HB.out) | (with_reducible refine Kd.C_alloc ?_ _) | (with_reducible refine Kd.C_drewN ?_ _) | (with_reducible refine Kd.C_drew ?_))); (case side2 => exact HC174_5.out); rintro e w41 ⟨rfl, hb⟩; have n0_ := Aside0.mk (blk_below (g := gb175) (o := .cells #[.int .i64 ((rd_T27 y167 x24_2).f0), .int .i64 ((rd_T27 y167 x24_2).f1), .int .i64 ((rd_T27 y167 x24_2).f2), .int .i64 ((rd_T27 y167 x24_2).f3), .int .i64 ((rd_T27 y167 x24_2).f4), .slice A174_5 ((rd_T27 y167 x24_2).f5).length c174_5] 27 (0, 0)) (by (with_reducible repeat (first | refine blk_drewN ?_ _ | refine blk_drew ?_ | refine blk_alloc ?_ _)); exact BK175.out) hb); have n1_ := Aside0.mk (below_step (by repeat (first | (with_reducible first | exact HB.out | apply below_alloc | apply pw_below_drewN | apply below_drew1 | refine below_set ?_ GE175.out) | exact HB.out)) hb); clear BK175; clear HB; have BK175 := n0_; have HB := n1_; clear n0_ n1_; (try clear hb); (try clear hb2); (try clear hk); (try clear hi); have hcz42_0 : w41.cell? ⟨gb175, 0, none⟩ = some (.int .i64 ((rd_T27 y167 x24_2).f0)) := (blk_cell BK175.out 0).trans rfl; have hcz42_1 : w41.cell? ⟨gb175, 1, none⟩ = some (.int .i64 ((rd_T27 y167 x24_2).f1)) := (blk_cell BK175.out 1).trans rfl; have hcz42_2 : w41.cell? ⟨gb175, 2, none⟩ = some (.int .i64 ((rd_T27 y167 x24_2).f2)) := (blk_cell BK175.out 2).trans rfl; have hcz42_3 : w41.cell? ⟨gb175, 3, none⟩ = some (.int .i64 ((rd_T27 y167 x24_2).f3)) := (blk_cell BK175.out 3).trans rfl; have hcz42_4 : w41.cell? ⟨gb175, 4, none⟩ = some (.int .i64 ((rd_T27 y167 x24_2).f4)) := (blk_cell BK175.out 4).trans rfl; have hcz42_5 : w41.cell? ⟨gb175, 5, none⟩ = some (.slice A174_5 ((rd_T27 y167 x24_2).f5).length c174_5) := (blk_cell BK175.out 5).trans rfl; have hfz42_0 := blk_frozen BK175.out 0; have hfz42_1 := blk_frozen BK175.out 1; have hfz42_2 := blk_frozen BK175.out 2; have hfz42_3 := blk_frozen BK175.out 3; have hfz42_4 := blk_frozen BK175.out 4; have hfz42_5 := blk_frozen BK175.out 5) | (go_at_call 23; (with_reducible refine (layout_Open.calls ((rd_T27 y167 x24_2).f0) ((rd_T27 y167 x24_2).f1) ((rd_T27 y167 x24_2).f2) ((rd_T27 y167 x24_2).f3) ((rd_T27 y167 x24_2).f4) _ _ ((rd_T27 y167 x24_2).f5) false _ ?side1 ?side2 A30.out).mono ?_); (case side1 => repeat (first | exact (Kd.C_below HR174_5.out HB.out) | (with_reducible refine Kd.C_alloc ?_ _) | (with_reducible refine Kd.C_drewN ?_ _) | (with_reducible refine Kd.C_drew ?_))); (case side2 => exact HC174_5.out); rintro e w43 ⟨rfl, hb⟩; have n0_ := Aside0.mk (blk_below (g := gb175) (o := .cells #[.int .i64 ((rd_T27 y167 x24_2).f0), .int .i64 ((rd_T27 y167 x24_2).f1), .int .i64 ((rd_T27 y167 x24_2).f2), .int .i64 ((rd_T27 y167 x24_2).f3), .int .i64 ((rd_T27 y167 x24_2).f4), .slice A174_5 ((rd_T27 y167 x24_2).f5).length c174_5] 27 (0, 0)) (by (with_reducible repeat (first | refine blk_drewN ?_ _ | refine blk_drew ?_ | refine blk_alloc ?_ _)); exact BK175.out) hb); have n1_ := Aside0.mk (below_step (by repeat (first | (with_reducible first | exact HB.out | apply below_alloc | apply pw_below_drewN | apply below_drew1 | refine below_set ?_ GE175.out) | exact HB.out)) hb); clear BK175; clear HB; have BK175 := n0_; have HB := n1_; clear n0_ n1_; (try clear hb); (try clear hb2); (try clear hk); (try clear hi)))
                              go_meet
                              case rel => exact ⟨_, (false), (by first | rfl | (simp; done) | (simp [*]; done)), H', ⟨by have := HJ4.out; have := HK2.out; first | omega | exact Nat.le_refl _⟩, ⟨by (with_reducible repeat (first | refine blk_drewN ?_ _ | refine blk_drew ?_ | refine blk_alloc ?_ _)); exact BK175.out⟩, ⟨by repeat (first | (with_reducible first | exact HB.out | apply below_alloc | apply pw_below_drewN | apply below_drew1 | refine below_set ?_ GE175.out) | exact HB.out)⟩⟩
                        · rw [if_neg c23] at H
                          have c23b0 : (t176 == 0) = false := beq_eq_false_iff_ne.mpr c23
                          have c23b1 : (t176 != 0) = true := bne_iff_ne.mpr c23
                          (first | rw [c23b0] | (simp only [i64_w, i32_w]; rw [c23b0]) | skip)
                          have H' := Aside0.mk H
                          clear H
                          have hcz44_0 : w20.cell? ⟨gb175, 0, none⟩ = some (.int .i64 0) := (blk_cell BK175.out 0).trans rfl
                          have hcz44_1 : w20.cell? ⟨gb175, 1, none⟩ = some (.int .i64 0) := (blk_cell BK175.out 1).trans rfl
                          have hcz44_2 : w20.cell? ⟨gb175, 2, none⟩ = some (.int .i64 0) := (blk_cell BK175.out 2).trans rfl
                          have hcz44_3 : w20.cell? ⟨gb175, 3, none⟩ = some (.int .i64 0) := (blk_cell BK175.out 3).trans rfl
                          have hcz44_4 : w20.cell? ⟨gb175, 4, none⟩ = some (.int .i64 0) := (blk_cell BK175.out 4).trans rfl
                          have hcz44_5 : w20.cell? ⟨gb175, 5, none⟩ = some (.slice none 0 0) := (blk_cell BK175.out 5).trans rfl
                          have hfz44_0 := blk_frozen BK175.out 0
                          have hfz44_1 := blk_frozen BK175.out 1
                          have hfz44_2 := blk_frozen BK175.out 2
                          have hfz44_3 := blk_frozen BK175.out 3
                          have hfz44_4 := blk_frozen BK175.out 4
                          have hfz44_5 := blk_frozen BK175.out 5
                          go_wp2_with (first | ((with_reducible refine gate_callee (f := 21) rfl ?_); refine goesL_ (some 30) rfl rfl Try.func21 (by kernel_rfl) rfl #[.agg #[.int .i64 ((rd_T27 y167 x24_2).f0), .int .i64 ((rd_T27 y167 x24_2).f1), .int .i64 ((rd_T27 y167 x24_2).f2), .int .i64 ((rd_T27 y167 x24_2).f3), .int .i64 ((rd_T27 y167 x24_2).f4), .slice A174_5 ((rd_T27 y167 x24_2).f5).length c174_5]] rfl (by (try simp only [List.map_toArray, List.map_cons, List.map_nil]); first | done | rfl | (simp only [List.length_drop, List.length_take]; rfl)) ?_; (with_reducible refine (passepartoutref04_Check.calls k2 ((rd_T27 y167 x24_2).f0) ((rd_T27 y167 x24_2).f1) ((rd_T27 y167 x24_2).f2) ((rd_T27 y167 x24_2).f3) ((rd_T27 y167 x24_2).f4) _ _ ((rd_T27 y167 x24_2).f5) t176 _ ?side1 ?side2 A22.out).mono ?_); (case side1 => exact Kd.C_below HR174_5.out (by repeat (first | (with_reducible first | exact HB.out | apply below_alloc | apply pw_below_drewN | apply below_drew1 | refine below_set ?_ GE175.out) | exact HB.out))); (case side2 => exact HC174_5.out); rintro e w45 ⟨rfl, hb⟩; refine ⟨_, rfl, ?_⟩; have n0_ := Aside0.mk (blk_below (g := gb175) (o := .cells #[.int .i64 ((rd_T27 y167 x24_2).f0), .int .i64 ((rd_T27 y167 x24_2).f1), .int .i64 ((rd_T27 y167 x24_2).f2), .int .i64 ((rd_T27 y167 x24_2).f3), .int .i64 ((rd_T27 y167 x24_2).f4), .slice A174_5 ((rd_T27 y167 x24_2).f5).length c174_5] 27 (0, 0)) (by (with_reducible repeat (first | refine blk_drewN ?_ _ | refine blk_drew ?_ | refine blk_alloc ?_ _)); refine blk_put (cs := #[.int .i64 ((rd_T27 y167 x24_2).f0), .int .i64 ((rd_T27 y167 x24_2).f1), .int .i64 ((rd_T27 y167 x24_2).f2), .int .i64 ((rd_T27 y167 x24_2).f3), .int .i64 ((rd_T27 y167 x24_2).f4), .slice none 0 0]) ?_ 5 _ rfl; (with_reducible repeat (first | refine blk_drewN ?_ _ | refine blk_drew ?_ | refine blk_alloc ?_ _)); refine blk_put (cs := #[.int .i64 ((rd_T27 y167 x24_2).f0), .int .i64 ((rd_T27 y167 x24_2).f1), .int .i64 ((rd_T27 y167 x24_2).f2), .int .i64 ((rd_T27 y167 x24_2).f3), .int .i64 0, .slice none 0 0]) ?_ 4 _ rfl; (with_reducible repeat (first | refine blk_drewN ?_ _ | refine blk_drew ?_ | refine blk_alloc ?_ _)); refine blk_put (cs := #[.int .i64 ((rd_T27 y167 x24_2).f0), .int .i64 ((rd_T27 y167 x24_2).f1), .int .i64 ((rd_T27 y167 x24_2).f2), .int .i64 0, .int .i64 0, .slice none 0 0]) ?_ 3 _ rfl; (with_reducible repeat (first | refine blk_drewN ?_ _ | refine blk_drew ?_ | refine blk_alloc ?_ _)); refine blk_put (cs := #[.int .i64 ((rd_T27 y167 x24_2).f0), .int .i64 ((rd_T27 y167 x24_2).f1), .int .i64 0, .int .i64 0, .int .i64 0, .slice none 0 0]) ?_ 2 _ rfl; (with_reducible repeat (first | refine blk_drewN ?_ _ | refine blk_drew ?_ | refine blk_alloc ?_ _)); refine blk_put (cs := #[.int .i64 ((rd_T27 y167 x24_2).f0), .int .i64 0, .int .i64 0, .int .i64 0, .int .i64 0, .slice none 0 0]) ?_ 1 _ rfl; (with_reducible repeat (first | refine blk_drewN ?_ _ | refine blk_drew ?_ | refine blk_alloc ?_ _)); refine blk_put (cs := #[.int .i64 0, .int .i64 0, .int .i64 0, .int .i64 0, .int .i64 0, .slice none 0 0]) ?_ 0 _ rfl; (with_reducible repeat (first | refine blk_drewN ?_ _ | refine blk_drew ?_ | refine blk_alloc ?_ _)); exact BK175.out) hb); have n1_ := Aside0.mk (below_step (by repeat (first | (with_reducible first | exact HB.out | apply below_alloc | apply pw_below_drewN | apply below_drew1 | refine below_set ?_ GE175.out) | exact HB.out)) hb); clear BK175; clear HB; have BK175 := n0_; have HB := n1_; clear n0_ n1_; (try clear hb); (try clear hb2); (try clear hk); (try clear hi)))
                          go_meet
                          case rel => exact ⟨_, (true), (by first | rfl | (simp; done) | (simp [*]; done)), H', ⟨by have := HJ4.out; have := HK2.out; first | omega | exact Nat.le_refl _⟩, ⟨by (with_reducible repeat (first | refine blk_drewN ?_ _ | refine blk_drew ?_ | refine blk_alloc ?_ _)); exact BK175.out⟩, ⟨by repeat (first | (with_reducible first | exact HB.out | apply below_alloc | apply pw_below_drewN | apply below_drew1 | refine below_set ?_ GE175.out) | exact HB.out)⟩⟩
                      case rest =>
                        clear HC19
                        try clear c1
                        try clear p1
                        try clear q1
                        try clear hx1
                        try clear c2
                        try clear p2
                        try clear c3
                        try clear c3b0
                        try clear c3b1
                        try clear c4
                        try clear c4b0
                        try clear c4b1
                        try clear p6
                        try clear q6
                        try clear c8
                        try clear c13
                        try clear c16
                        try clear c16b0
                        try clear c17
                        try clear c17b0
                        try clear p17
                        try clear q17
                        try clear hx17
                        try clear c18
                        try clear c18b0
                        try clear c19
                        try clear c21
                        try clear c23
                        try clear c23b0
                        try clear c23b1
                        try clear c25
                        try clear c25b0
                        try clear c31
                        try clear hcz21_0
                        try clear hcz21_1
                        try clear hcz21_2
                        try clear hcz21_3
                        try clear hcz21_4
                        try clear hcz21_5
                        try clear hcz26_0
                        try clear hcz26_1
                        try clear hcz26_2
                        try clear hcz26_3
                        try clear hcz26_4
                        try clear hcz26_5
                        try clear hcz28_0
                        try clear hcz28_1
                        try clear hcz28_2
                        try clear hcz28_3
                        try clear hcz28_4
                        try clear hcz28_5
                        try clear hcz32_0
                        try clear hcz32_1
                        try clear hcz32_2
                        try clear hcz32_3
                        try clear hcz32_4
                        try clear hcz32_5
                        try clear hcz34_0
                        try clear hcz34_1
                        try clear hcz34_2
                        try clear hcz34_3
                        try clear hcz34_4
                        try clear hcz34_5
                        try clear hcz36_0
                        try clear hcz36_1
                        try clear hcz36_2
                        try clear hcz36_3
                        try clear hcz36_4
                        try clear hcz36_5
                        try clear hcz38_0
                        try clear hcz38_1
                        try clear hcz38_2
                        try clear hcz38_3
                        try clear hcz38_4
                        try clear hcz38_5
                        try clear hcz40_0
                        try clear hcz40_1
                        try clear hcz40_2
                        try clear hcz40_3
                        try clear hcz40_4
                        try clear hcz40_5
                        try clear hcz42_0
                        try clear hcz42_1
                        try clear hcz42_2
                        try clear hcz42_3
                        try clear hcz42_4
                        try clear hcz42_5
                        try clear hcz44_0
                        try clear hcz44_1
                        try clear hcz44_2
                        try clear hcz44_3
                        try clear hcz44_4
                        try clear hcz44_5
                        try clear hfz21_0
                        try clear hfz21_1
                        try clear hfz21_2
                        try clear hfz21_3
                        try clear hfz21_4
                        try clear hfz21_5
                        try clear hfz26_0
                        try clear hfz26_1
                        try clear hfz26_2
                        try clear hfz26_3
                        try clear hfz26_4
                        try clear hfz26_5
                        try clear hfz28_0
                        try clear hfz28_1
                        try clear hfz28_2
                        try clear hfz28_3
                        try clear hfz28_4
                        try clear hfz28_5
                        try clear hfz32_0
                        try clear hfz32_1
                        try clear hfz32_2
                        try clear hfz32_3
                        try clear hfz32_4
                        try clear hfz32_5
                        try clear hfz34_0
                        try clear hfz34_1
                        try clear hfz34_2
                        try clear hfz34_3
                        try clear hfz34_4
                        try clear hfz34_5
                        try clear hfz36_0
                        try clear hfz36_1
                        try clear hfz36_2
                        try clear hfz36_3
                        try clear hfz36_4
                        try clear hfz36_5
                        try clear hfz38_0
                        try clear hfz38_1
                        try clear hfz38_2
                        try clear hfz38_3
                        try clear hfz38_4
                        try clear hfz38_5
                        try clear hfz40_0
                        try clear hfz40_1
                        try clear hfz40_2
                        try clear hfz40_3
                        try clear hfz40_4
                        try clear hfz40_5
                        try clear hfz42_0
                        try clear hfz42_1
                        try clear hfz42_2
                        try clear hfz42_3
                        try clear hfz42_4
                        try clear hfz42_5
                        try clear hfz44_0
                        try clear hfz44_1
                        try clear hfz44_2
                        try clear hfz44_3
                        try clear hfz44_4
                        try clear hfz44_5
                        try clear hx174_0
                        try clear hx174_1
                        try clear hx174_2
                        try clear hx174_3
                        try clear hx174_4
                        try clear hx174_5
                        try clear p174
                        try clear p2
                        try clear q174
                        try clear q6
                        obtain ⟨kq, x47_18, rfl, HA, HJ18, BK175, HB⟩ := hcut
                        cases kq with
                        | zero => exact absurd HA.out (by simp [passepartoutlaw04_FormRows.j2])
                        | succ kj18 =>
                          have H := HA.out
                          clear HA
                          simp only [passepartoutlaw04_FormRows.j2] at H
                          by_cases c46 : x47_18 = true
                          · subst c46
                            have H1 : ((passepartoutlaw04_alive.f).bind fun t179 => (some t179)) = some r := by rw [if_pos rfl] at H; exact H
                            clear H
                            have H := H1
                            clear H1
                            replace H := Option.bind_eq_some_iff.mp H
                            obtain ⟨t179, A470, H⟩ := H
                            replace H : (some t179) = some r := H
                            have A47 := Aside0.mk A470
                            clear A470
                            obtain rfl := Option.some.inj H
                            go_wp2_with (first | ((with_reducible refine gate_callee (f := 19) rfl ?_); refine goesL_ (some 48) rfl rfl Try.func19 (by kernel_rfl) rfl #[] rfl (by (try simp only [List.map_toArray, List.map_cons, List.map_nil]); first | done | rfl | (simp only [List.length_drop, List.length_take]; rfl)) ?_; (with_reducible refine (passepartoutlaw04_alive.calls  t179 _ A47.out).mono ?_); rintro e w48 ⟨rfl, hb⟩; refine ⟨_, rfl, ?_⟩; have n0_ := Aside0.mk (blk_below (g := gb175) (o := .cells #[.int .i64 ((rd_T27 y167 x24_2).f0), .int .i64 ((rd_T27 y167 x24_2).f1), .int .i64 ((rd_T27 y167 x24_2).f2), .int .i64 ((rd_T27 y167 x24_2).f3), .int .i64 ((rd_T27 y167 x24_2).f4), .slice A174_5 ((rd_T27 y167 x24_2).f5).length c174_5] 27 (0, 0)) (by (with_reducible repeat (first | refine blk_drewN ?_ _ | refine blk_drew ?_ | refine blk_alloc ?_ _)); exact BK175.out) hb); have n1_ := Aside0.mk (below_step (by repeat (first | (with_reducible first | exact HB.out | apply below_alloc | apply pw_below_drewN | apply below_drew1 | refine below_set ?_ GE175.out) | exact HB.out)) hb); clear BK175; clear HB; have BK175 := n0_; have HB := n1_; clear n0_ n1_; (try clear hb); (try clear hb2); (try clear hk); (try clear hi)))
                            go_ret
                            exact ⟨by first | rfl | (simp [errW_none, errW_some] <;> rfl) | (simp only [← hji2]; first | rfl | (simp [errW_none, errW_some] <;> rfl)) | (simp [*, errW_none, errW_some] <;> rfl), by repeat (first | (with_reducible first | exact HB.out | apply below_alloc | apply pw_below_drewN | apply below_drew1 | refine below_set ?_ GE175.out) | exact HB.out)⟩
                          · replace c46 := Bool.eq_false_iff.mpr c46
                            subst c46
                            have H1 : ((layout_Least.f ((rd_T27 y167 x24_2).f0) ((rd_T27 y167 x24_2).f1) ((rd_T27 y167 x24_2).f2) ((rd_T27 y167 x24_2).f3) ((rd_T27 y167 x24_2).f4) ((rd_T27 y167 x24_2).f5)).bind fun t180 => ((layout_Most.f ((rd_T27 y167 x24_2).f0) ((rd_T27 y167 x24_2).f1) ((rd_T27 y167 x24_2).f2) ((rd_T27 y167 x24_2).f3) ((rd_T27 y167 x24_2).f4) ((rd_T27 y167 x24_2).f5)).bind fun t181 => (passepartoutlaw04_FormRows.l0 kj18 y167 (wrap64 (x3_2 + t180)) (wrap64 (x4_2 + t181)) y167 (y167.length : Int) (wrap64 (x24_2 + 1))))) = some r := by rw [if_neg (show ¬ (false = true) by decide)] at H; exact H
                            clear H
                            have H := H1
                            clear H1
                            replace H := Option.bind_eq_some_iff.mp H
                            obtain ⟨t180, A490, H⟩ := H
                            replace H : ((layout_Most.f ((rd_T27 y167 x24_2).f0) ((rd_T27 y167 x24_2).f1) ((rd_T27 y167 x24_2).f2) ((rd_T27 y167 x24_2).f3) ((rd_T27 y167 x24_2).f4) ((rd_T27 y167 x24_2).f5)).bind fun t181 => (passepartoutlaw04_FormRows.l0 kj18 y167 (wrap64 (x3_2 + t180)) (wrap64 (x4_2 + t181)) y167 (y167.length : Int) (wrap64 (x24_2 + 1)))) = some r := H
                            have A49 := Aside0.mk A490
                            clear A490
                            replace H := Option.bind_eq_some_iff.mp H
                            obtain ⟨t181, A500, H⟩ := H
                            replace H : (passepartoutlaw04_FormRows.l0 kj18 y167 (wrap64 (x3_2 + t180)) (wrap64 (x4_2 + t181)) y167 (y167.length : Int) (wrap64 (x24_2 + 1))) = some r := H
                            have A50 := Aside0.mk A500
                            clear A500
                            have H' := Aside0.mk H
                            clear H
                            try go_wp2
                            have n0_ := Aside0.mk (blk_drew BK175.out)
                            have n1_ := Aside0.mk (below_drew1 HB.out)
                            clear BK175
                            clear HB
                            have BK175 := n0_
                            have HB := n1_
                            clear n0_ n1_
                            refine start_ (n := 10) (S := fun w' => w'.cell? ⟨gb175, 0, none⟩ = some (.int .i64 ((rd_T27 y167 x24_2).f0)) ∧ w'.cell? ⟨gb175, 1, none⟩ = some (.int .i64 ((rd_T27 y167 x24_2).f1)) ∧ w'.cell? ⟨gb175, 2, none⟩ = some (.int .i64 ((rd_T27 y167 x24_2).f2)) ∧ w'.cell? ⟨gb175, 3, none⟩ = some (.int .i64 ((rd_T27 y167 x24_2).f3)) ∧ w'.cell? ⟨gb175, 4, none⟩ = some (.int .i64 ((rd_T27 y167 x24_2).f4)) ∧ w'.cell? ⟨gb175, 5, none⟩ = some (.slice A174_5 ((rd_T27 y167 x24_2).f5).length c174_5)) (ds := []) #[false, false, false, false, false, false, false, false, false, false] (by kernel_rfl) rfl rfl ⟨(blk_cell BK175.out 0).trans rfl, (blk_cell BK175.out 1).trans rfl, (blk_cell BK175.out 2).trans rfl, (blk_cell BK175.out 3).trans rfl, (blk_cell BK175.out 4).trans rfl, (blk_cell BK175.out 5).trans rfl⟩ (fun hHeld => ?_); refine with_tabW passepartoutlaw04_FormRows.tab10 passepartoutlaw04_FormRows.bits10 (fun HT_ HW_ => ?_)
                            generalize wc.drew = w51 at BK175 HB hHeld ⊢
                            refine pure_ (i := 0) (N := some 49) (v := ?_) (a' := ?_) #[true, false, false, false, false, false, false, false, false, false] rfl rfl (any_of HT_.out (by kernel_rfl)) (fun _ _ _ h => h) (Or.inl ⟨by rfl, ?_⟩) ?_ ?_
                            rotate_left
                            · intro w'
                              go_simp
                              with_reducible rfl
                            rotate_left
                            · simp only [Act.put, List.setIfInBounds_toArray, List.set_cons_zero, List.set_cons_succ, i64_w, i32_w]
                              rfl
                            refine pure_ (i := 4) (N := some 53) (v := ?_) (a' := ?_) #[true, false, false, false, true, false, false, false, false, false] rfl rfl (any_of HT_.out (by kernel_rfl)) (fun _ _ _ h => h) (Or.inl ⟨by rfl, ?_⟩) ?_ ?_
                            rotate_left
                            · intro w'
                              go_simp
                              with_reducible rfl
                            rotate_left
                            · simp only [Act.put, List.setIfInBounds_toArray, List.set_cons_zero, List.set_cons_succ, i64_w, i32_w]
                              rfl
                            refine take_ (i := 1) (N := some 50) (v := ?_) (a' := ?_) #[true, true, false, false, true, false, false, false, false, false] rfl rfl (take_ofW HT_.out HW_.out (by kernel_rfl)) (fun _ _ _ h => h) (Or.inl ⟨by rfl, ?_⟩) hHeld ?_ ?_
                            rotate_left
                            · rintro w' ⟨s0, s1, s2, s3, s4, s5⟩
                              go_simp
                              with_reducible rfl
                            rotate_left
                            · simp only [Act.put, List.setIfInBounds_toArray, List.set_cons_zero, List.set_cons_succ, i64_w, i32_w]
                              rfl
                            refine take_ (i := 5) (N := some 54) (v := ?_) (a' := ?_) #[true, true, false, false, true, true, false, false, false, false] rfl rfl (take_ofW HT_.out HW_.out (by kernel_rfl)) (fun _ _ _ h => h) (Or.inl ⟨by rfl, ?_⟩) hHeld ?_ ?_
                            rotate_left
                            · rintro w' ⟨s0, s1, s2, s3, s4, s5⟩
                              go_simp
                              with_reducible rfl
                            rotate_left
                            · simp only [Act.put, List.setIfInBounds_toArray, List.set_cons_zero, List.set_cons_succ, i64_w, i32_w]
                              rfl
                            refine one_ (i := 2) (N := some 51) #[true, true, true, false, true, true, false, false, false, false] rfl rfl (one_of HT_.out (by kernel_rfl)) (by decide) (fun K hK => ?_)
                            refine goes_ Try.func24 (by kernel_rfl) rfl #[.agg #[.int .i64 ((rd_T27 y167 x24_2).f0), .int .i64 ((rd_T27 y167 x24_2).f1), .int .i64 ((rd_T27 y167 x24_2).f2), .int .i64 ((rd_T27 y167 x24_2).f3), .int .i64 ((rd_T27 y167 x24_2).f4), .slice A174_5 ((rd_T27 y167 x24_2).f5).length c174_5]] (by rfl) rfl rfl (by (try simp only [List.map_toArray, List.map_cons, List.map_nil]); first | done | rfl | (simp only [List.length_drop, List.length_take]; rfl)) ?_
                            with_reducible refine (layout_Least.calls ((rd_T27 y167 x24_2).f0) ((rd_T27 y167 x24_2).f1) ((rd_T27 y167 x24_2).f2) ((rd_T27 y167 x24_2).f3) ((rd_T27 y167 x24_2).f4) _ _ ((rd_T27 y167 x24_2).f5) t180 _ ?side1 ?side2 A49.out).mono ?_
                            (case side1 => repeat (first | exact (Kd.C_below HR174_5.out HB.out) | (with_reducible refine Kd.C_alloc ?_ _) | (with_reducible refine Kd.C_drewN ?_ _) | (with_reducible refine Kd.C_drew ?_)))
                            (case side2 => exact HC174_5.out)
                            rintro e w52 ⟨rfl, hb⟩
                            refine ⟨_, rfl, ?_⟩
                            have n0_ := Aside0.mk (blk_below (g := gb175) (o := .cells #[.int .i64 ((rd_T27 y167 x24_2).f0), .int .i64 ((rd_T27 y167 x24_2).f1), .int .i64 ((rd_T27 y167 x24_2).f2), .int .i64 ((rd_T27 y167 x24_2).f3), .int .i64 ((rd_T27 y167 x24_2).f4), .slice A174_5 ((rd_T27 y167 x24_2).f5).length c174_5] 27 (0, 0)) (by (with_reducible repeat (first | refine blk_drewN ?_ _ | refine blk_drew ?_ | refine blk_alloc ?_ _)); exact BK175.out) hb)
                            have n1_ := Aside0.mk (below_step (by repeat (first | (with_reducible first | exact HB.out | apply below_alloc | apply pw_below_drewN | apply below_drew1 | refine below_set ?_ GE175.out) | exact HB.out)) hb)
                            clear BK175
                            clear HB
                            have BK175 := n0_
                            have HB := n1_
                            clear n0_ n1_
                            (try clear hb)
                            (try clear hb2)
                            (try clear hk)
                            (try clear hi)
                            refine hK.out _ _ ⟨(blk_cell BK175.out 0).trans rfl, (blk_cell BK175.out 1).trans rfl, (blk_cell BK175.out 2).trans rfl, (blk_cell BK175.out 3).trans rfl, (blk_cell BK175.out 4).trans rfl, (blk_cell BK175.out 5).trans rfl⟩ (fun hHeld => ?_)
                            clear hK K
                            refine norm_ (a' := ?_) ?_ ?_
                            rotate_left
                            · show Act.put _ (some 51) _ = _
                              simp only [Act.put, List.setIfInBounds_toArray, List.set_cons_zero, List.set_cons_succ, i64_w, i32_w]
                              rfl
                            refine pure_ (i := 3) (N := some 52) (v := ?_) (a' := ?_) #[true, true, true, true, true, true, false, false, false, false] rfl rfl (any_of HT_.out (by kernel_rfl)) (fun _ _ _ h => h) (Or.inl ⟨by rfl, ?_⟩) ?_ ?_
                            rotate_left
                            · intro w'
                              go_simp
                              with_reducible rfl
                            rotate_left
                            · simp only [Act.put, List.setIfInBounds_toArray, List.set_cons_zero, List.set_cons_succ, i64_w, i32_w]
                              rfl
                            refine one_ (i := 6) (N := some 55) #[true, true, true, true, true, true, true, false, false, false] rfl rfl (one_of HT_.out (by kernel_rfl)) (by decide) (fun K hK => ?_)
                            refine goes_ Try.func25 (by kernel_rfl) rfl #[.agg #[.int .i64 ((rd_T27 y167 x24_2).f0), .int .i64 ((rd_T27 y167 x24_2).f1), .int .i64 ((rd_T27 y167 x24_2).f2), .int .i64 ((rd_T27 y167 x24_2).f3), .int .i64 ((rd_T27 y167 x24_2).f4), .slice A174_5 ((rd_T27 y167 x24_2).f5).length c174_5]] (by rfl) rfl rfl (by (try simp only [List.map_toArray, List.map_cons, List.map_nil]); first | done | rfl | (simp only [List.length_drop, List.length_take]; rfl)) ?_
                            with_reducible refine (layout_Most.calls ((rd_T27 y167 x24_2).f0) ((rd_T27 y167 x24_2).f1) ((rd_T27 y167 x24_2).f2) ((rd_T27 y167 x24_2).f3) ((rd_T27 y167 x24_2).f4) _ _ ((rd_T27 y167 x24_2).f5) t181 _ ?side1 ?side2 A50.out).mono ?_
                            (case side1 => repeat (first | exact (Kd.C_below HR174_5.out HB.out) | (with_reducible refine Kd.C_alloc ?_ _) | (with_reducible refine Kd.C_drewN ?_ _) | (with_reducible refine Kd.C_drew ?_)))
                            (case side2 => exact HC174_5.out)
                            rintro e w53 ⟨rfl, hb⟩
                            refine ⟨_, rfl, ?_⟩
                            have n0_ := Aside0.mk (blk_below (g := gb175) (o := .cells #[.int .i64 ((rd_T27 y167 x24_2).f0), .int .i64 ((rd_T27 y167 x24_2).f1), .int .i64 ((rd_T27 y167 x24_2).f2), .int .i64 ((rd_T27 y167 x24_2).f3), .int .i64 ((rd_T27 y167 x24_2).f4), .slice A174_5 ((rd_T27 y167 x24_2).f5).length c174_5] 27 (0, 0)) (by (with_reducible repeat (first | refine blk_drewN ?_ _ | refine blk_drew ?_ | refine blk_alloc ?_ _)); exact BK175.out) hb)
                            have n1_ := Aside0.mk (below_step (by repeat (first | (with_reducible first | exact HB.out | apply below_alloc | apply pw_below_drewN | apply below_drew1 | refine below_set ?_ GE175.out) | exact HB.out)) hb)
                            clear BK175
                            clear HB
                            have BK175 := n0_
                            have HB := n1_
                            clear n0_ n1_
                            (try clear hb)
                            (try clear hb2)
                            (try clear hk)
                            (try clear hi)
                            refine hK.out _ _ ⟨(blk_cell BK175.out 0).trans rfl, (blk_cell BK175.out 1).trans rfl, (blk_cell BK175.out 2).trans rfl, (blk_cell BK175.out 3).trans rfl, (blk_cell BK175.out 4).trans rfl, (blk_cell BK175.out 5).trans rfl⟩ (fun hHeld => ?_)
                            clear hK K
                            refine norm_ (a' := ?_) ?_ ?_
                            rotate_left
                            · show Act.put _ (some 55) _ = _
                              simp only [Act.put, List.setIfInBounds_toArray, List.set_cons_zero, List.set_cons_succ, i64_w, i32_w]
                              rfl
                            refine pure_ (i := 7) (N := some 56) (v := ?_) (a' := ?_) #[true, true, true, true, true, true, true, true, false, false] rfl rfl (any_of HT_.out (by kernel_rfl)) (fun _ _ _ h => h) (Or.inl ⟨by rfl, ?_⟩) ?_ ?_
                            rotate_left
                            · intro w'
                              go_simp
                              with_reducible rfl
                            rotate_left
                            · simp only [Act.put, List.setIfInBounds_toArray, List.set_cons_zero, List.set_cons_succ, i64_w, i32_w]
                              rfl
                            refine pure_ (i := 8) (N := some 3) (v := ?_) (a' := ?_) #[true, true, true, true, true, true, true, true, true, false] rfl rfl (any_of HT_.out (by kernel_rfl)) (fun _ _ _ h => h) (Or.inl ⟨by rfl, ?_⟩) ?_ ?_
                            rotate_left
                            · intro w'
                              go_simp
                              with_reducible rfl
                            rotate_left
                            · simp only [Act.put, List.setIfInBounds_toArray, List.set_cons_zero, List.set_cons_succ, i64_w, i32_w]
                              rfl
                            refine pure_ (i := 9) (N := some 4) (v := ?_) (a' := ?_) #[true, true, true, true, true, true, true, true, true, true] rfl rfl (any_of HT_.out (by kernel_rfl)) (fun _ _ _ h => h) (Or.inl ⟨by rfl, ?_⟩) ?_ ?_
                            rotate_left
                            · intro w'
                              go_simp
                              with_reducible rfl
                            rotate_left
                            · simp only [Act.put, List.setIfInBounds_toArray, List.set_cons_zero, List.set_cons_succ, i64_w, i32_w]
                              rfl
                            refine done_ (done_of HT_.out (by kernel_rfl)) ?_
                            try go_wp2
                            go_roundg kj18
                            case measure => have := HJ4.out; have := HK2.out; have := HJ18.out; omega
                            case rel => exact ⟨(wrap64 (x3_2 + t180)), (wrap64 (x4_2 + t181)), (wrap64 (x24_2 + 1)), (by first | rfl | (simp; done) | (simp [*]; done)), (by first | rfl | (simp; done) | (simp [*]; done)), (by first | rfl | (simp; done) | (simp [*]; done)), H', ⟨by have := HJ4.out; have := HK2.out; have := HJ18.out; omega⟩, ⟨by repeat (first | (with_reducible first | exact HB.out | apply below_alloc | apply pw_below_drewN | apply below_drew1 | refine below_set ?_ GE175.out) | exact HB.out)⟩⟩
                    · rw [if_neg c18] at H
                      exact absurd H (by simp)
                  · rw [if_neg c17] at H
                    exact absurd H (by simp)
                · rw [if_neg c16] at H
                  have c16b0 : decide (x24_2 < (y167.length : Int)) = false := decide_eq_false c16
                  clear c16
                  replace H := Option.bind_eq_some_iff.mp H
                  obtain ⟨⟨t182, t183, t184, t185, t186, t187⟩, A540, H⟩ := H
                  replace H : ((layout_Check.f t182 t183 t184 t185 t186 t187).bind fun t191 => (if t191 = 0 then ((layout_Least.f t182 t183 t184 t185 t186 t187).bind fun t192 => (if t192 = x3_2 then ((layout_Most.f t182 t183 t184 t185 t186 t187).bind fun t193 => (if t193 = x4_2 then ((layout_Open.f t182 t183 t184 t185 t186 t187).bind fun t194 => (if (y167.length : Int) > 0 then (if 0 ≤ (wrap64 ((y167.length : Int) - 1)) then (if (wrap64 ((y167.length : Int) - 1)) < (y167.length : Int) then ((layout_Open.f ((rd_T27 y167 (wrap64 ((y167.length : Int) - 1))).f0) ((rd_T27 y167 (wrap64 ((y167.length : Int) - 1))).f1) ((rd_T27 y167 (wrap64 ((y167.length : Int) - 1))).f2) ((rd_T27 y167 (wrap64 ((y167.length : Int) - 1))).f3) ((rd_T27 y167 (wrap64 ((y167.length : Int) - 1))).f4) ((rd_T27 y167 (wrap64 ((y167.length : Int) - 1))).f5)).bind fun t196 => (passepartoutlaw04_FormRows.j3 k2 x3_2 (t194 != t196) t182 t183 t184 t185 t186 t187)) else (none)) else (none)) else (passepartoutlaw04_FormRows.j3 k2 x3_2 (t194 != false) t182 t183 t184 t185 t186 t187))) else (passepartoutlaw04_FormRows.j3 k2 x3_2 true t182 t183 t184 t185 t186 t187))) else (passepartoutlaw04_FormRows.j3 k2 x3_2 true t182 t183 t184 t185 t186 t187))) else (passepartoutlaw04_FormRows.j3 k2 x3_2 true t182 t183 t184 t185 t186 t187))) = some r := H
                  have A54 := Aside0.mk A540
                  clear A540
                  have HC55 := Aside0.mk H
                  clear H
                  go_upto_region 13 with (first | ((with_reducible refine gate_callee (f := 26) rfl ?_); refine goesL_ (some 59) rfl rfl Try.func26 (by kernel_rfl) rfl #[.slice A0 y167.length c0] rfl (by (try simp only [List.map_toArray, List.map_cons, List.map_nil]); first | done | rfl | (simp only [List.length_drop, List.length_take]; rfl)) ?_; (with_reducible refine (layout_Row.calls (fun k_ => k_ < w.heap.size) _ _ y167 t182 t183 t184 t185 t186 t187 _ ?side1 A54.out).mono ?_); (case side1 => exact Kd.V_mk HC170.out (Kd.F_below (Kd.C_F k27_heap HR170.out) (by repeat (first | (with_reducible first | exact HB.out | apply below_alloc | apply pw_below_drewN | apply below_drew1) | exact HB.out)))); rintro e w56 ⟨v188, rfl, ho0, hb⟩; refine ⟨_, rfl, ?_⟩; have n0_ := Aside0.mk (Kd.N_lower (Kd.N_mono (ok' := fun k_ => True) ho0 (fun k_ hk_ => trivial)) (below_size (by repeat (first | (with_reducible first | exact HB.out | apply below_alloc | apply pw_below_drewN | apply below_drew1) | exact HB.out)))); have n1_ := Aside0.mk (below_step (by repeat (first | (with_reducible first | exact HB.out | apply below_alloc | apply pw_below_drewN | apply below_drew1) | exact HB.out)) hb); clear HB; have HO189 := n0_; have HB := n1_; clear n0_ n1_; (try clear hb); (try clear hb2); (try clear hk); (try clear hi); (try clear ho0)) | ((with_reducible refine gate_dst (N := 7) rfl ?_); (try (refine gate_guard (by rfl) ?_; dsimp only)); refine box_event ?hg (N := 7) ?hd (cs := #[.int .i64 0, .int .i64 0, .int .i64 0, .int .i64 0, .int .i64 0, .slice none 0 0]) (t := 27) ?hr ?_; (case hd => rfl); (case hg => rfl); (case hr => first | (go_simp; done) | (go_simp; rfl)); intro gb190 hg w57 hbox hb; have n0_ := Aside0.mk (Kd.N_below (Kd.N_elderB (by (with_reducible repeat (first | apply Kd.N_alloc | apply Kd.N_drewN | apply Kd.N_drew)); exact HO189.out) gb190 (Nat.le_of_eq hg.symm)) hb); have n1_ := Aside0.mk (below_step (by repeat (first | (with_reducible first | exact HB.out | apply below_alloc | apply pw_below_drewN | apply below_drew1) | exact HB.out)) hb); have n2_ := Aside0.mk (hbox); have n3_ := Aside0.mk ((by rw [hg]; exact (below_size (by repeat (first | (with_reducible first | exact HB.out | apply below_alloc | apply pw_below_drewN | apply below_drew1) | exact HB.out))) : w.heap.size ≤ gb190)); have n4_ := Aside0.mk ((by rw [hg]; exact (below_size (by repeat (first | (with_reducible first | exact HB.out | apply below_alloc | apply pw_below_drewN | apply below_drew1) | exact HB.out))) : w.heap.size ≤ gb190)); clear HO189; clear HB; have HO189 := n0_; have HB := n1_; have BK190 := n2_; have GW190 := n3_; have GE190 := n4_; clear n0_ n1_ n2_ n3_ n4_; clear hb hbox hg; have hcz58_0 : w57.cell? ⟨gb190, 0, none⟩ = some (.int .i64 0) := (blk_cell BK190.out 0).trans rfl; have hcz58_1 : w57.cell? ⟨gb190, 1, none⟩ = some (.int .i64 0) := (blk_cell BK190.out 1).trans rfl; have hcz58_2 : w57.cell? ⟨gb190, 2, none⟩ = some (.int .i64 0) := (blk_cell BK190.out 2).trans rfl; have hcz58_3 : w57.cell? ⟨gb190, 3, none⟩ = some (.int .i64 0) := (blk_cell BK190.out 3).trans rfl; have hcz58_4 : w57.cell? ⟨gb190, 4, none⟩ = some (.int .i64 0) := (blk_cell BK190.out 4).trans rfl; have hcz58_5 : w57.cell? ⟨gb190, 5, none⟩ = some (.slice none 0 0) := (blk_cell BK190.out 5).trans rfl; have hfz58_0 := blk_frozen BK190.out 0; have hfz58_1 := blk_frozen BK190.out 1; have hfz58_2 := blk_frozen BK190.out 2; have hfz58_3 := blk_frozen BK190.out 3; have hfz58_4 := blk_frozen BK190.out 4; have hfz58_5 := blk_frozen BK190.out 5; obtain ⟨Ao59, co59, eo59⟩ := Kd.N_slice HO189.out; subst eo59))
                  (try simp only [Act.put, List.setIfInBounds_toArray, List.set_cons_zero, List.set_cons_succ])
                  go_cut [91] (fun v91 wc => ∃ (kq : Nat) (x91_54 : Bool), v91 = .bool x91_54 ∧ Aside0 (passepartoutlaw04_FormRows.j3 kq x3_2 x91_54 t182 t183 t184 t185 t186 t187 = some r) ∧ Aside0 (kq ≤ k2) ∧ Aside0 (Kd.N k27 27 wc w.heap.size (fun k_ => k_ ≠ gb190) (.slice Ao59 t187.length co59) t187) ∧ Aside0 (wc.heap[gb190]? = some (.cells #[.int .i64 t182, .int .i64 t183, .int .i64 t184, .int .i64 t185, .int .i64 t186, (.slice Ao59 t187.length co59)] 27 (0, 0))) ∧ Aside0 (Below w.heap.size w wc))
                  case first =>
                    have H := HC55.out
                    clear HC55
                    replace H := Option.bind_eq_some_iff.mp H
                    obtain ⟨t191, A600, H⟩ := H
                    replace H : (if t191 = 0 then ((layout_Least.f t182 t183 t184 t185 t186 t187).bind fun t192 => (if t192 = x3_2 then ((layout_Most.f t182 t183 t184 t185 t186 t187).bind fun t193 => (if t193 = x4_2 then ((layout_Open.f t182 t183 t184 t185 t186 t187).bind fun t194 => (if (y167.length : Int) > 0 then (if 0 ≤ (wrap64 ((y167.length : Int) - 1)) then (if (wrap64 ((y167.length : Int) - 1)) < (y167.length : Int) then ((layout_Open.f ((rd_T27 y167 (wrap64 ((y167.length : Int) - 1))).f0) ((rd_T27 y167 (wrap64 ((y167.length : Int) - 1))).f1) ((rd_T27 y167 (wrap64 ((y167.length : Int) - 1))).f2) ((rd_T27 y167 (wrap64 ((y167.length : Int) - 1))).f3) ((rd_T27 y167 (wrap64 ((y167.length : Int) - 1))).f4) ((rd_T27 y167 (wrap64 ((y167.length : Int) - 1))).f5)).bind fun t196 => (passepartoutlaw04_FormRows.j3 k2 x3_2 (t194 != t196) t182 t183 t184 t185 t186 t187)) else (none)) else (none)) else (passepartoutlaw04_FormRows.j3 k2 x3_2 (t194 != false) t182 t183 t184 t185 t186 t187))) else (passepartoutlaw04_FormRows.j3 k2 x3_2 true t182 t183 t184 t185 t186 t187))) else (passepartoutlaw04_FormRows.j3 k2 x3_2 true t182 t183 t184 t185 t186 t187))) else (passepartoutlaw04_FormRows.j3 k2 x3_2 true t182 t183 t184 t185 t186 t187)) = some r := H
                    have A60 := Aside0.mk A600
                    clear A600
                    by_cases c61 : t191 = 0
                    · rw [if_pos c61] at H
                      have c61b0 : (t191 == 0) = true := beq_iff_eq.mpr c61
                      have c61b1 : (t191 != 0) = false := bne_eq_false_iff_eq.mpr c61
                      clear c61
                      (first | rw [c61b0] | (simp only [i64_w, i32_w]; rw [c61b0]) | skip)
                      replace H := Option.bind_eq_some_iff.mp H
                      obtain ⟨t192, A620, H⟩ := H
                      replace H : (if t192 = x3_2 then ((layout_Most.f t182 t183 t184 t185 t186 t187).bind fun t193 => (if t193 = x4_2 then ((layout_Open.f t182 t183 t184 t185 t186 t187).bind fun t194 => (if (y167.length : Int) > 0 then (if 0 ≤ (wrap64 ((y167.length : Int) - 1)) then (if (wrap64 ((y167.length : Int) - 1)) < (y167.length : Int) then ((layout_Open.f ((rd_T27 y167 (wrap64 ((y167.length : Int) - 1))).f0) ((rd_T27 y167 (wrap64 ((y167.length : Int) - 1))).f1) ((rd_T27 y167 (wrap64 ((y167.length : Int) - 1))).f2) ((rd_T27 y167 (wrap64 ((y167.length : Int) - 1))).f3) ((rd_T27 y167 (wrap64 ((y167.length : Int) - 1))).f4) ((rd_T27 y167 (wrap64 ((y167.length : Int) - 1))).f5)).bind fun t196 => (passepartoutlaw04_FormRows.j3 k2 x3_2 (t194 != t196) t182 t183 t184 t185 t186 t187)) else (none)) else (none)) else (passepartoutlaw04_FormRows.j3 k2 x3_2 (t194 != false) t182 t183 t184 t185 t186 t187))) else (passepartoutlaw04_FormRows.j3 k2 x3_2 true t182 t183 t184 t185 t186 t187))) else (passepartoutlaw04_FormRows.j3 k2 x3_2 true t182 t183 t184 t185 t186 t187)) = some r := H
                      have A62 := Aside0.mk A620
                      clear A620
                      by_cases c63 : t192 = x3_2
                      · rw [if_pos c63] at H
                        have c63b0 : (t192 == x3_2) = true := beq_iff_eq.mpr c63
                        have c63b1 : (t192 != x3_2) = false := bne_eq_false_iff_eq.mpr c63
                        clear c63
                        replace H := Option.bind_eq_some_iff.mp H
                        obtain ⟨t193, A640, H⟩ := H
                        replace H : (if t193 = x4_2 then ((layout_Open.f t182 t183 t184 t185 t186 t187).bind fun t194 => (if (y167.length : Int) > 0 then (if 0 ≤ (wrap64 ((y167.length : Int) - 1)) then (if (wrap64 ((y167.length : Int) - 1)) < (y167.length : Int) then ((layout_Open.f ((rd_T27 y167 (wrap64 ((y167.length : Int) - 1))).f0) ((rd_T27 y167 (wrap64 ((y167.length : Int) - 1))).f1) ((rd_T27 y167 (wrap64 ((y167.length : Int) - 1))).f2) ((rd_T27 y167 (wrap64 ((y167.length : Int) - 1))).f3) ((rd_T27 y167 (wrap64 ((y167.length : Int) - 1))).f4) ((rd_T27 y167 (wrap64 ((y167.length : Int) - 1))).f5)).bind fun t196 => (passepartoutlaw04_FormRows.j3 k2 x3_2 (t194 != t196) t182 t183 t184 t185 t186 t187)) else (none)) else (none)) else (passepartoutlaw04_FormRows.j3 k2 x3_2 (t194 != false) t182 t183 t184 t185 t186 t187))) else (passepartoutlaw04_FormRows.j3 k2 x3_2 true t182 t183 t184 t185 t186 t187)) = some r := H
                        have A64 := Aside0.mk A640
                        clear A640
                        by_cases c65 : t193 = x4_2
                        · rw [if_pos c65] at H
                          have c65b0 : (t193 == x4_2) = true := beq_iff_eq.mpr c65
                          have c65b1 : (t193 != x4_2) = false := bne_eq_false_iff_eq.mpr c65
                          clear c65
                          replace H := Option.bind_eq_some_iff.mp H
                          obtain ⟨t194, A660, H⟩ := H
                          replace H : (if (y167.length : Int) > 0 then (if 0 ≤ (wrap64 ((y167.length : Int) - 1)) then (if (wrap64 ((y167.length : Int) - 1)) < (y167.length : Int) then ((layout_Open.f ((rd_T27 y167 (wrap64 ((y167.length : Int) - 1))).f0) ((rd_T27 y167 (wrap64 ((y167.length : Int) - 1))).f1) ((rd_T27 y167 (wrap64 ((y167.length : Int) - 1))).f2) ((rd_T27 y167 (wrap64 ((y167.length : Int) - 1))).f3) ((rd_T27 y167 (wrap64 ((y167.length : Int) - 1))).f4) ((rd_T27 y167 (wrap64 ((y167.length : Int) - 1))).f5)).bind fun t196 => (passepartoutlaw04_FormRows.j3 k2 x3_2 (t194 != t196) t182 t183 t184 t185 t186 t187)) else (none)) else (none)) else (passepartoutlaw04_FormRows.j3 k2 x3_2 (t194 != false) t182 t183 t184 t185 t186 t187)) = some r := H
                          have A66 := Aside0.mk A660
                          clear A660
                          by_cases c67 : (y167.length : Int) > 0
                          · rw [if_pos c67] at H
                            have c67b0 : decide (0 < (y167.length : Int)) = true := decide_eq_true c67
                            have c67b1 : decide (0 < y167.length) = true := decide_eq_true (by omega)
                            clear c67
                            obtain ⟨ji68, hji68⟩ : ∃ j_ : Int, (wrap64 ((y167.length : Int) - 1)) = j_ := ⟨_, rfl⟩
                            replace H : (if 0 ≤ (ji68) then (if (ji68) < (y167.length : Int) then ((layout_Open.f ((rd_T27 y167 (ji68)).f0) ((rd_T27 y167 (ji68)).f1) ((rd_T27 y167 (ji68)).f2) ((rd_T27 y167 (ji68)).f3) ((rd_T27 y167 (ji68)).f4) ((rd_T27 y167 (ji68)).f5)).bind fun t196 => (passepartoutlaw04_FormRows.j3 k2 x3_2 (t194 != t196) t182 t183 t184 t185 t186 t187)) else (none)) else (none)) = some r := by first | (rw [hji68] at H; exact H) | (simp only [hji68] at H ⊢; exact H)
                            (try rw [hji68] at A60)
                            (try rw [hji68] at A62)
                            (try rw [hji68] at A64)
                            (try rw [hji68] at A66)
                            have hji68w : (IntKind.i64.wrap ((y167.length : Int) - 1)) = ji68 := (i64_w _).trans hji68
                            by_cases c69 : 0 ≤ (ji68)
                            · rw [if_pos c69] at H
                              have c69b0 : decide (0 ≤ (ji68)) = true := decide_eq_true c69
                              clear c69
                              by_cases c70 : (ji68) < (y167.length : Int)
                              · rw [if_pos c70] at H
                                have c70b0 : decide ((ji68) < (y167.length : Int)) = true := decide_eq_true c70
                                clear c70
                                replace H := Option.bind_eq_some_iff.mp H
                                obtain ⟨t196, A710, H⟩ := H
                                replace H : (passepartoutlaw04_FormRows.j3 k2 x3_2 (t194 != t196) t182 t183 t184 t185 t186 t187) = some r := H
                                have A71 := Aside0.mk A710
                                clear A710
                                have H' := Aside0.mk H
                                clear H
                                have hcz72_0 : w57.cell? ⟨gb190, 0, none⟩ = some (.int .i64 0) := (blk_cell BK190.out 0).trans rfl
                                have hcz72_1 : w57.cell? ⟨gb190, 1, none⟩ = some (.int .i64 0) := (blk_cell BK190.out 1).trans rfl
                                have hcz72_2 : w57.cell? ⟨gb190, 2, none⟩ = some (.int .i64 0) := (blk_cell BK190.out 2).trans rfl
                                have hcz72_3 : w57.cell? ⟨gb190, 3, none⟩ = some (.int .i64 0) := (blk_cell BK190.out 3).trans rfl
                                have hcz72_4 : w57.cell? ⟨gb190, 4, none⟩ = some (.int .i64 0) := (blk_cell BK190.out 4).trans rfl
                                have hcz72_5 : w57.cell? ⟨gb190, 5, none⟩ = some (.slice none 0 0) := (blk_cell BK190.out 5).trans rfl
                                have hfz72_0 := blk_frozen BK190.out 0
                                have hfz72_1 := blk_frozen BK190.out 1
                                have hfz72_2 := blk_frozen BK190.out 2
                                have hfz72_3 := blk_frozen BK190.out 3
                                have hfz72_4 := blk_frozen BK190.out 4
                                have hfz72_5 := blk_frozen BK190.out 5
                                go_wp2_with (first | ((with_reducible refine gate_callee (f := 14) rfl ?_); refine goesL_ (some 61) rfl rfl Try.func14 (by kernel_rfl) rfl #[.agg #[.int .i64 t182, .int .i64 t183, .int .i64 t184, .int .i64 t185, .int .i64 t186, .slice Ao59 t187.length co59]] rfl (by (try simp only [List.map_toArray, List.map_cons, List.map_nil]); first | done | rfl | (simp only [List.length_drop, List.length_take]; rfl)) ?_; (with_reducible refine (layout_Check.calls t182 t183 t184 t185 t186 _ _ t187 t191 _ ?side1 ?side2 A60.out).mono ?_); (case side1 => refine (Kd.N_reads' (e := 27) (base := w.heap.size) (ok := fun k_ => (True ∧ k_ ≠ gb190)) (n := t187.length) (c := co59) ?_).2.2; exact (by (with_reducible repeat (first | apply Kd.N_alloc | apply Kd.N_drewN | apply Kd.N_drew)); exact (Kd.N_mono (Kd.N_far (p := ⟨gb190, 5, none⟩) (Kd.N_far (p := ⟨gb190, 4, none⟩) (Kd.N_far (p := ⟨gb190, 3, none⟩) (Kd.N_far (p := ⟨gb190, 2, none⟩) (Kd.N_far (p := ⟨gb190, 1, none⟩) (Kd.N_far (p := ⟨gb190, 0, none⟩) (Kd.N_mono HO189.out (fun k_ hk => (⟨hk, hk.2⟩ : _ ∧ k_ ≠ gb190))) (fun _ hk => hk.2) (.int .i64 t182)) (fun _ hk => hk.2) (.int .i64 t183)) (fun _ hk => hk.2) (.int .i64 t184)) (fun _ hk => hk.2) (.int .i64 t185)) (fun _ hk => hk.2) (.int .i64 t186)) (fun _ hk => hk.2) (.slice Ao59 t187.length co59)) (fun _ h_ => h_.1)))); (case side2 => exact (Kd.N_reads' HO189.out).2.1); rintro e w73 ⟨rfl, hb⟩; refine ⟨_, rfl, ?_⟩; have n0_ := Aside0.mk (Kd.N_below (by (with_reducible repeat (first | apply Kd.N_alloc | apply Kd.N_drewN | apply Kd.N_drew)); exact (Kd.N_mono (Kd.N_far (p := ⟨gb190, 5, none⟩) (Kd.N_far (p := ⟨gb190, 4, none⟩) (Kd.N_far (p := ⟨gb190, 3, none⟩) (Kd.N_far (p := ⟨gb190, 2, none⟩) (Kd.N_far (p := ⟨gb190, 1, none⟩) (Kd.N_far (p := ⟨gb190, 0, none⟩) (Kd.N_mono HO189.out (fun k_ hk => (⟨hk, hk.2⟩ : _ ∧ k_ ≠ gb190))) (fun _ hk => hk.2) (.int .i64 t182)) (fun _ hk => hk.2) (.int .i64 t183)) (fun _ hk => hk.2) (.int .i64 t184)) (fun _ hk => hk.2) (.int .i64 t185)) (fun _ hk => hk.2) (.int .i64 t186)) (fun _ hk => hk.2) (.slice Ao59 t187.length co59)) (fun _ h_ => h_.1))) hb); have n1_ := Aside0.mk (blk_below (g := gb190) (o := .cells #[.int .i64 t182, .int .i64 t183, .int .i64 t184, .int .i64 t185, .int .i64 t186, .slice Ao59 t187.length co59] 27 (0, 0)) (by (with_reducible repeat (first | refine blk_drewN ?_ _ | refine blk_drew ?_ | refine blk_alloc ?_ _)); refine blk_put (cs := #[.int .i64 t182, .int .i64 t183, .int .i64 t184, .int .i64 t185, .int .i64 t186, .slice none 0 0]) ?_ 5 _ rfl; (with_reducible repeat (first | refine blk_drewN ?_ _ | refine blk_drew ?_ | refine blk_alloc ?_ _)); refine blk_put (cs := #[.int .i64 t182, .int .i64 t183, .int .i64 t184, .int .i64 t185, .int .i64 0, .slice none 0 0]) ?_ 4 _ rfl; (with_reducible repeat (first | refine blk_drewN ?_ _ | refine blk_drew ?_ | refine blk_alloc ?_ _)); refine blk_put (cs := #[.int .i64 t182, .int .i64 t183, .int .i64 t184, .int .i64 0, .int .i64 0, .slice none 0 0]) ?_ 3 _ rfl; (with_reducible repeat (first | refine blk_drewN ?_ _ | refine blk_drew ?_ | refine blk_alloc ?_ _)); refine blk_put (cs := #[.int .i64 t182, .int .i64 t183, .int .i64 0, .int .i64 0, .int .i64 0, .slice none 0 0]) ?_ 2 _ rfl; (with_reducible repeat (first | refine blk_drewN ?_ _ | refine blk_drew ?_ | refine blk_alloc ?_ _)); refine blk_put (cs := #[.int .i64 t182, .int .i64 0, .int .i64 0, .int .i64 0, .int .i64 0, .slice none 0 0]) ?_ 1 _ rfl; (with_reducible repeat (first | refine blk_drewN ?_ _ | refine blk_drew ?_ | refine blk_alloc ?_ _)); refine blk_put (cs := #[.int .i64 0, .int .i64 0, .int .i64 0, .int .i64 0, .int .i64 0, .slice none 0 0]) ?_ 0 _ rfl; (with_reducible repeat (first | refine blk_drewN ?_ _ | refine blk_drew ?_ | refine blk_alloc ?_ _)); exact BK190.out) hb); have n2_ := Aside0.mk (below_step (by repeat (first | (with_reducible first | exact HB.out | apply below_alloc | apply pw_below_drewN | apply below_drew1 | refine below_set ?_ GE190.out) | exact HB.out)) hb); clear HO189; clear BK190; clear HB; have HO189 := n0_; have BK190 := n1_; have HB := n2_; clear n0_ n1_ n2_; (try clear hb); (try clear hb2); (try clear hk); (try clear hi); have hcz74_0 : w73.cell? ⟨gb190, 0, none⟩ = some (.int .i64 t182) := (blk_cell BK190.out 0).trans rfl; have hcz74_1 : w73.cell? ⟨gb190, 1, none⟩ = some (.int .i64 t183) := (blk_cell BK190.out 1).trans rfl; have hcz74_2 : w73.cell? ⟨gb190, 2, none⟩ = some (.int .i64 t184) := (blk_cell BK190.out 2).trans rfl; have hcz74_3 : w73.cell? ⟨gb190, 3, none⟩ = some (.int .i64 t185) := (blk_cell BK190.out 3).trans rfl; have hcz74_4 : w73.cell? ⟨gb190, 4, none⟩ = some (.int .i64 t186) := (blk_cell BK190.out 4).trans rfl; have hcz74_5 : w73.cell? ⟨gb190, 5, none⟩ = some (.slice Ao59 t187.length co59) := (blk_cell BK190.out 5).trans rfl; have hfz74_0 := blk_frozen BK190.out 0; have hfz74_1 := blk_frozen BK190.out 1; have hfz74_2 := blk_frozen BK190.out 2; have hfz74_3 := blk_frozen BK190.out 3; have hfz74_4 := blk_frozen BK190.out 4; have hfz74_5 := blk_frozen BK190.out 5) | (go_at_call 24; (with_reducible refine (layout_Least.calls t182 t183 t184 t185 t186 _ _ t187 t192 _ ?side1 ?side2 A62.out).mono ?_); (case side1 => repeat (first | exact (Kd.N_reads' HO189.out).2.2 | (with_reducible refine Kd.C_alloc ?_ _) | (with_reducible refine Kd.C_drewN ?_ _) | (with_reducible refine Kd.C_drew ?_))); (case side2 => exact (Kd.N_reads' HO189.out).2.1); rintro e w75 ⟨rfl, hb⟩; have n0_ := Aside0.mk (Kd.N_below (by (with_reducible repeat (first | apply Kd.N_alloc | apply Kd.N_drewN | apply Kd.N_drew)); exact HO189.out) hb); have n1_ := Aside0.mk (blk_below (g := gb190) (o := .cells #[.int .i64 t182, .int .i64 t183, .int .i64 t184, .int .i64 t185, .int .i64 t186, .slice Ao59 t187.length co59] 27 (0, 0)) (by (with_reducible repeat (first | refine blk_drewN ?_ _ | refine blk_drew ?_ | refine blk_alloc ?_ _)); exact BK190.out) hb); have n2_ := Aside0.mk (below_step (by repeat (first | (with_reducible first | exact HB.out | apply below_alloc | apply pw_below_drewN | apply below_drew1 | refine below_set ?_ GE190.out) | exact HB.out)) hb); clear HO189; clear BK190; clear HB; have HO189 := n0_; have BK190 := n1_; have HB := n2_; clear n0_ n1_ n2_; (try clear hb); (try clear hb2); (try clear hk); (try clear hi); have hcz76_0 : w75.cell? ⟨gb190, 0, none⟩ = some (.int .i64 t182) := (blk_cell BK190.out 0).trans rfl; have hcz76_1 : w75.cell? ⟨gb190, 1, none⟩ = some (.int .i64 t183) := (blk_cell BK190.out 1).trans rfl; have hcz76_2 : w75.cell? ⟨gb190, 2, none⟩ = some (.int .i64 t184) := (blk_cell BK190.out 2).trans rfl; have hcz76_3 : w75.cell? ⟨gb190, 3, none⟩ = some (.int .i64 t185) := (blk_cell BK190.out 3).trans rfl; have hcz76_4 : w75.cell? ⟨gb190, 4, none⟩ = some (.int .i64 t186) := (blk_cell BK190.out 4).trans rfl; have hcz76_5 : w75.cell? ⟨gb190, 5, none⟩ = some (.slice Ao59 t187.length co59) := (blk_cell BK190.out 5).trans rfl; have hfz76_0 := blk_frozen BK190.out 0; have hfz76_1 := blk_frozen BK190.out 1; have hfz76_2 := blk_frozen BK190.out 2; have hfz76_3 := blk_frozen BK190.out 3; have hfz76_4 := blk_frozen BK190.out 4; have hfz76_5 := blk_frozen BK190.out 5) | (go_at_call 25; (with_reducible refine (layout_Most.calls t182 t183 t184 t185 t186 _ _ t187 t193 _ ?side1 ?side2 A64.out).mono ?_); (case side1 => repeat (first | exact (Kd.N_reads' HO189.out).2.2 | (with_reducible refine Kd.C_alloc ?_ _) | (with_reducible refine Kd.C_drewN ?_ _) | (with_reducible refine Kd.C_drew ?_))); (case side2 => exact (Kd.N_reads' HO189.out).2.1); rintro e w77 ⟨rfl, hb⟩; have n0_ := Aside0.mk (Kd.N_below (by (with_reducible repeat (first | apply Kd.N_alloc | apply Kd.N_drewN | apply Kd.N_drew)); exact HO189.out) hb); have n1_ := Aside0.mk (blk_below (g := gb190) (o := .cells #[.int .i64 t182, .int .i64 t183, .int .i64 t184, .int .i64 t185, .int .i64 t186, .slice Ao59 t187.length co59] 27 (0, 0)) (by (with_reducible repeat (first | refine blk_drewN ?_ _ | refine blk_drew ?_ | refine blk_alloc ?_ _)); exact BK190.out) hb); have n2_ := Aside0.mk (below_step (by repeat (first | (with_reducible first | exact HB.out | apply below_alloc | apply pw_below_drewN | apply below_drew1 | refine below_set ?_ GE190.out) | exact HB.out)) hb); clear HO189; clear BK190; clear HB; have HO189 := n0_; have BK190 := n1_; have HB := n2_; clear n0_ n1_ n2_; (try clear hb); (try clear hb2); (try clear hk); (try clear hi); have hcz78_0 : w77.cell? ⟨gb190, 0, none⟩ = some (.int .i64 t182) := (blk_cell BK190.out 0).trans rfl; have hcz78_1 : w77.cell? ⟨gb190, 1, none⟩ = some (.int .i64 t183) := (blk_cell BK190.out 1).trans rfl; have hcz78_2 : w77.cell? ⟨gb190, 2, none⟩ = some (.int .i64 t184) := (blk_cell BK190.out 2).trans rfl; have hcz78_3 : w77.cell? ⟨gb190, 3, none⟩ = some (.int .i64 t185) := (blk_cell BK190.out 3).trans rfl; have hcz78_4 : w77.cell? ⟨gb190, 4, none⟩ = some (.int .i64 t186) := (blk_cell BK190.out 4).trans rfl; have hcz78_5 : w77.cell? ⟨gb190, 5, none⟩ = some (.slice Ao59 t187.length co59) := (blk_cell BK190.out 5).trans rfl; have hfz78_0 := blk_frozen BK190.out 0; have hfz78_1 := blk_frozen BK190.out 1; have hfz78_2 := blk_frozen BK190.out 2; have hfz78_3 := blk_frozen BK190.out 3; have hfz78_4 := blk_frozen BK190.out 4; have hfz78_5 := blk_frozen BK190.out 5) | (go_at_call 23; (with_reducible refine (layout_Open.calls t182 t183 t184 t185 t186 _ _ t187 t194 _ ?side1 ?side2 A66.out).mono ?_); (case side1 => repeat (first | exact (Kd.N_reads' HO189.out).2.2 | (with_reducible refine Kd.C_alloc ?_ _) | (with_reducible refine Kd.C_drewN ?_ _) | (with_reducible refine Kd.C_drew ?_))); (case side2 => exact (Kd.N_reads' HO189.out).2.1); rintro e w79 ⟨rfl, hb⟩; have n0_ := Aside0.mk (Kd.N_below (by (with_reducible repeat (first | apply Kd.N_alloc | apply Kd.N_drewN | apply Kd.N_drew)); exact HO189.out) hb); have n1_ := Aside0.mk (blk_below (g := gb190) (o := .cells #[.int .i64 t182, .int .i64 t183, .int .i64 t184, .int .i64 t185, .int .i64 t186, .slice Ao59 t187.length co59] 27 (0, 0)) (by (with_reducible repeat (first | refine blk_drewN ?_ _ | refine blk_drew ?_ | refine blk_alloc ?_ _)); exact BK190.out) hb); have n2_ := Aside0.mk (below_step (by repeat (first | (with_reducible first | exact HB.out | apply below_alloc | apply pw_below_drewN | apply below_drew1 | refine below_set ?_ GE190.out) | exact HB.out)) hb); clear HO189; clear BK190; clear HB; have HO189 := n0_; have BK190 := n1_; have HB := n2_; clear n0_ n1_ n2_; (try clear hb); (try clear hb2); (try clear hk); (try clear hi); have p195 : 0 ≤ ((ji68) : Int) := of_decide_eq_true (by first | (with_reducible assumption) | assumption); have q195 : (ji68) < (y167.length : Int) := of_decide_eq_true (by first | (with_reducible assumption) | assumption); obtain ⟨ad195, A195_5, c195_5, e195, hx195_0, hx195_1, hx195_2, hx195_3, hx195_4, hx195_5, hl195_5, hi195_5⟩ := at_T27 HR170.out (ji68) p195 q195; cases e195; replace hx195_0 := (HB.out.cell (World.block_lt_of_cell? w _ hx195_0)).trans hx195_0; replace hx195_1 := (HB.out.cell (World.block_lt_of_cell? w _ hx195_1)).trans hx195_1; replace hx195_2 := (HB.out.cell (World.block_lt_of_cell? w _ hx195_2)).trans hx195_2; replace hx195_3 := (HB.out.cell (World.block_lt_of_cell? w _ hx195_3)).trans hx195_3; replace hx195_4 := (HB.out.cell (World.block_lt_of_cell? w _ hx195_4)).trans hx195_4; replace hx195_5 := (HB.out.cell (World.block_lt_of_cell? w _ hx195_5)).trans hx195_5; have HR195_5 := Aside0.mk hi195_5; have HC195_5 := Aside0.mk hl195_5; clear hi195_5 hl195_5; replace p195 := eq_true p195; replace q195 := eq_true q195) | (go_at_call 23; (with_reducible refine (layout_Open.calls ((rd_T27 y167 (ji68)).f0) ((rd_T27 y167 (ji68)).f1) ((rd_T27 y167 (ji68)).f2) ((rd_T27 y167 (ji68)).f3) ((rd_T27 y167 (ji68)).f4) _ _ ((rd_T27 y167 (ji68)).f5) t196 _ ?side1 ?side2 A71.out).mono ?_); (case side1 => repeat (first | exact (Kd.C_below HR195_5.out HB.out) | (with_reducible refine Kd.C_alloc ?_ _) | (with_reducible refine Kd.C_drewN ?_ _) | (with_reducible refine Kd.C_drew ?_))); (case side2 => exact HC195_5.out); rintro e w80 ⟨rfl, hb⟩; have n0_ := Aside0.mk (Kd.N_below (by (with_reducible repeat (first | apply Kd.N_alloc | apply Kd.N_drewN | apply Kd.N_drew)); exact HO189.out) hb); have n1_ := Aside0.mk (blk_below (g := gb190) (o := .cells #[.int .i64 t182, .int .i64 t183, .int .i64 t184, .int .i64 t185, .int .i64 t186, .slice Ao59 t187.length co59] 27 (0, 0)) (by (with_reducible repeat (first | refine blk_drewN ?_ _ | refine blk_drew ?_ | refine blk_alloc ?_ _)); exact BK190.out) hb); have n2_ := Aside0.mk (below_step (by repeat (first | (with_reducible first | exact HB.out | apply below_alloc | apply pw_below_drewN | apply below_drew1 | refine below_set ?_ GE190.out) | exact HB.out)) hb); clear HO189; clear BK190; clear HB; have HO189 := n0_; have BK190 := n1_; have HB := n2_; clear n0_ n1_ n2_; (try clear hb); (try clear hb2); (try clear hk); (try clear hi)))
                                go_meet
                                case rel => exact ⟨_, ((t194 != t196)), (by first | rfl | (simp; done) | (simp [*]; done)), H', ⟨by have := HJ4.out; have := HK2.out; first | omega | exact Nat.le_refl _⟩, ⟨by (with_reducible repeat (first | apply Kd.N_alloc | apply Kd.N_drewN | apply Kd.N_drew)); exact Kd.N_mono HO189.out (fun _ hk => hk.2)⟩, ⟨by (with_reducible repeat (first | refine blk_drewN ?_ _ | refine blk_drew ?_ | refine blk_alloc ?_ _)); exact BK190.out⟩, ⟨by repeat (first | (with_reducible first | exact HB.out | apply below_alloc | apply pw_below_drewN | apply below_drew1 | refine below_set ?_ GE190.out) | exact HB.out)⟩⟩
                              · rw [if_neg c70] at H
                                exact absurd H (by simp)
                            · rw [if_neg c69] at H
                              exact absurd H (by simp)
                          · rw [if_neg c67] at H
                            have c67b0 : decide (0 < (y167.length : Int)) = false := decide_eq_false c67
                            have c67b1 : decide (0 < y167.length) = false := decide_eq_false (by omega)
                            clear c67
                            have H' := Aside0.mk H
                            clear H
                            have hcz81_0 : w57.cell? ⟨gb190, 0, none⟩ = some (.int .i64 0) := (blk_cell BK190.out 0).trans rfl
                            have hcz81_1 : w57.cell? ⟨gb190, 1, none⟩ = some (.int .i64 0) := (blk_cell BK190.out 1).trans rfl
                            have hcz81_2 : w57.cell? ⟨gb190, 2, none⟩ = some (.int .i64 0) := (blk_cell BK190.out 2).trans rfl
                            have hcz81_3 : w57.cell? ⟨gb190, 3, none⟩ = some (.int .i64 0) := (blk_cell BK190.out 3).trans rfl
                            have hcz81_4 : w57.cell? ⟨gb190, 4, none⟩ = some (.int .i64 0) := (blk_cell BK190.out 4).trans rfl
                            have hcz81_5 : w57.cell? ⟨gb190, 5, none⟩ = some (.slice none 0 0) := (blk_cell BK190.out 5).trans rfl
                            have hfz81_0 := blk_frozen BK190.out 0
                            have hfz81_1 := blk_frozen BK190.out 1
                            have hfz81_2 := blk_frozen BK190.out 2
                            have hfz81_3 := blk_frozen BK190.out 3
                            have hfz81_4 := blk_frozen BK190.out 4
                            have hfz81_5 := blk_frozen BK190.out 5
                            go_wp2_with (first | ((with_reducible refine gate_callee (f := 14) rfl ?_); refine goesL_ (some 61) rfl rfl Try.func14 (by kernel_rfl) rfl #[.agg #[.int .i64 t182, .int .i64 t183, .int .i64 t184, .int .i64 t185, .int .i64 t186, .slice Ao59 t187.length co59]] rfl (by (try simp only [List.map_toArray, List.map_cons, List.map_nil]); first | done | rfl | (simp only [List.length_drop, List.length_take]; rfl)) ?_; (with_reducible refine (layout_Check.calls t182 t183 t184 t185 t186 _ _ t187 t191 _ ?side1 ?side2 A60.out).mono ?_); (case side1 => refine (Kd.N_reads' (e := 27) (base := w.heap.size) (ok := fun k_ => (True ∧ k_ ≠ gb190)) (n := t187.length) (c := co59) ?_).2.2; exact (by (with_reducible repeat (first | apply Kd.N_alloc | apply Kd.N_drewN | apply Kd.N_drew)); exact (Kd.N_mono (Kd.N_far (p := ⟨gb190, 5, none⟩) (Kd.N_far (p := ⟨gb190, 4, none⟩) (Kd.N_far (p := ⟨gb190, 3, none⟩) (Kd.N_far (p := ⟨gb190, 2, none⟩) (Kd.N_far (p := ⟨gb190, 1, none⟩) (Kd.N_far (p := ⟨gb190, 0, none⟩) (Kd.N_mono HO189.out (fun k_ hk => (⟨hk, hk.2⟩ : _ ∧ k_ ≠ gb190))) (fun _ hk => hk.2) (.int .i64 t182)) (fun _ hk => hk.2) (.int .i64 t183)) (fun _ hk => hk.2) (.int .i64 t184)) (fun _ hk => hk.2) (.int .i64 t185)) (fun _ hk => hk.2) (.int .i64 t186)) (fun _ hk => hk.2) (.slice Ao59 t187.length co59)) (fun _ h_ => h_.1)))); (case side2 => exact (Kd.N_reads' HO189.out).2.1); rintro e w82 ⟨rfl, hb⟩; refine ⟨_, rfl, ?_⟩; have n0_ := Aside0.mk (Kd.N_below (by (with_reducible repeat (first | apply Kd.N_alloc | apply Kd.N_drewN | apply Kd.N_drew)); exact (Kd.N_mono (Kd.N_far (p := ⟨gb190, 5, none⟩) (Kd.N_far (p := ⟨gb190, 4, none⟩) (Kd.N_far (p := ⟨gb190, 3, none⟩) (Kd.N_far (p := ⟨gb190, 2, none⟩) (Kd.N_far (p := ⟨gb190, 1, none⟩) (Kd.N_far (p := ⟨gb190, 0, none⟩) (Kd.N_mono HO189.out (fun k_ hk => (⟨hk, hk.2⟩ : _ ∧ k_ ≠ gb190))) (fun _ hk => hk.2) (.int .i64 t182)) (fun _ hk => hk.2) (.int .i64 t183)) (fun _ hk => hk.2) (.int .i64 t184)) (fun _ hk => hk.2) (.int .i64 t185)) (fun _ hk => hk.2) (.int .i64 t186)) (fun _ hk => hk.2) (.slice Ao59 t187.length co59)) (fun _ h_ => h_.1))) hb); have n1_ := Aside0.mk (blk_below (g := gb190) (o := .cells #[.int .i64 t182, .int .i64 t183, .int .i64 t184, .int .i64 t185, .int .i64 t186, .slice Ao59 t187.length co59] 27 (0, 0)) (by (with_reducible repeat (first | refine blk_drewN ?_ _ | refine blk_drew ?_ | refine blk_alloc ?_ _)); refine blk_put (cs := #[.int .i64 t182, .int .i64 t183, .int .i64 t184, .int .i64 t185, .int .i64 t186, .slice none 0 0]) ?_ 5 _ rfl; (with_reducible repeat (first | refine blk_drewN ?_ _ | refine blk_drew ?_ | refine blk_alloc ?_ _)); refine blk_put (cs := #[.int .i64 t182, .int .i64 t183, .int .i64 t184, .int .i64 t185, .int .i64 0, .slice none 0 0]) ?_ 4 _ rfl; (with_reducible repeat (first | refine blk_drewN ?_ _ | refine blk_drew ?_ | refine blk_alloc ?_ _)); refine blk_put (cs := #[.int .i64 t182, .int .i64 t183, .int .i64 t184, .int .i64 0, .int .i64 0, .slice none 0 0]) ?_ 3 _ rfl; (with_reducible repeat (first | refine blk_drewN ?_ _ | refine blk_drew ?_ | refine blk_alloc ?_ _)); refine blk_put (cs := #[.int .i64 t182, .int .i64 t183, .int .i64 0, .int .i64 0, .int .i64 0, .slice none 0 0]) ?_ 2 _ rfl; (with_reducible repeat (first | refine blk_drewN ?_ _ | refine blk_drew ?_ | refine blk_alloc ?_ _)); refine blk_put (cs := #[.int .i64 t182, .int .i64 0, .int .i64 0, .int .i64 0, .int .i64 0, .slice none 0 0]) ?_ 1 _ rfl; (with_reducible repeat (first | refine blk_drewN ?_ _ | refine blk_drew ?_ | refine blk_alloc ?_ _)); refine blk_put (cs := #[.int .i64 0, .int .i64 0, .int .i64 0, .int .i64 0, .int .i64 0, .slice none 0 0]) ?_ 0 _ rfl; (with_reducible repeat (first | refine blk_drewN ?_ _ | refine blk_drew ?_ | refine blk_alloc ?_ _)); exact BK190.out) hb); have n2_ := Aside0.mk (below_step (by repeat (first | (with_reducible first | exact HB.out | apply below_alloc | apply pw_below_drewN | apply below_drew1 | refine below_set ?_ GE190.out) | exact HB.out)) hb); clear HO189; clear BK190; clear HB; have HO189 := n0_; have BK190 := n1_; have HB := n2_; clear n0_ n1_ n2_; (try clear hb); (try clear hb2); (try clear hk); (try clear hi); have hcz83_0 : w82.cell? ⟨gb190, 0, none⟩ = some (.int .i64 t182) := (blk_cell BK190.out 0).trans rfl; have hcz83_1 : w82.cell? ⟨gb190, 1, none⟩ = some (.int .i64 t183) := (blk_cell BK190.out 1).trans rfl; have hcz83_2 : w82.cell? ⟨gb190, 2, none⟩ = some (.int .i64 t184) := (blk_cell BK190.out 2).trans rfl; have hcz83_3 : w82.cell? ⟨gb190, 3, none⟩ = some (.int .i64 t185) := (blk_cell BK190.out 3).trans rfl; have hcz83_4 : w82.cell? ⟨gb190, 4, none⟩ = some (.int .i64 t186) := (blk_cell BK190.out 4).trans rfl; have hcz83_5 : w82.cell? ⟨gb190, 5, none⟩ = some (.slice Ao59 t187.length co59) := (blk_cell BK190.out 5).trans rfl; have hfz83_0 := blk_frozen BK190.out 0; have hfz83_1 := blk_frozen BK190.out 1; have hfz83_2 := blk_frozen BK190.out 2; have hfz83_3 := blk_frozen BK190.out 3; have hfz83_4 := blk_frozen BK190.out 4; have hfz83_5 := blk_frozen BK190.out 5) | (go_at_call 24; (with_reducible refine (layout_Least.calls t182 t183 t184 t185 t186 _ _ t187 t192 _ ?side1 ?side2 A62.out).mono ?_); (case side1 => repeat (first | exact (Kd.N_reads' HO189.out).2.2 | (with_reducible refine Kd.C_alloc ?_ _) | (with_reducible refine Kd.C_drewN ?_ _) | (with_reducible refine Kd.C_drew ?_))); (case side2 => exact (Kd.N_reads' HO189.out).2.1); rintro e w84 ⟨rfl, hb⟩; have n0_ := Aside0.mk (Kd.N_below (by (with_reducible repeat (first | apply Kd.N_alloc | apply Kd.N_drewN | apply Kd.N_drew)); exact HO189.out) hb); have n1_ := Aside0.mk (blk_below (g := gb190) (o := .cells #[.int .i64 t182, .int .i64 t183, .int .i64 t184, .int .i64 t185, .int .i64 t186, .slice Ao59 t187.length co59] 27 (0, 0)) (by (with_reducible repeat (first | refine blk_drewN ?_ _ | refine blk_drew ?_ | refine blk_alloc ?_ _)); exact BK190.out) hb); have n2_ := Aside0.mk (below_step (by repeat (first | (with_reducible first | exact HB.out | apply below_alloc | apply pw_below_drewN | apply below_drew1 | refine below_set ?_ GE190.out) | exact HB.out)) hb); clear HO189; clear BK190; clear HB; have HO189 := n0_; have BK190 := n1_; have HB := n2_; clear n0_ n1_ n2_; (try clear hb); (try clear hb2); (try clear hk); (try clear hi); have hcz85_0 : w84.cell? ⟨gb190, 0, none⟩ = some (.int .i64 t182) := (blk_cell BK190.out 0).trans rfl; have hcz85_1 : w84.cell? ⟨gb190, 1, none⟩ = some (.int .i64 t183) := (blk_cell BK190.out 1).trans rfl; have hcz85_2 : w84.cell? ⟨gb190, 2, none⟩ = some (.int .i64 t184) := (blk_cell BK190.out 2).trans rfl; have hcz85_3 : w84.cell? ⟨gb190, 3, none⟩ = some (.int .i64 t185) := (blk_cell BK190.out 3).trans rfl; have hcz85_4 : w84.cell? ⟨gb190, 4, none⟩ = some (.int .i64 t186) := (blk_cell BK190.out 4).trans rfl; have hcz85_5 : w84.cell? ⟨gb190, 5, none⟩ = some (.slice Ao59 t187.length co59) := (blk_cell BK190.out 5).trans rfl; have hfz85_0 := blk_frozen BK190.out 0; have hfz85_1 := blk_frozen BK190.out 1; have hfz85_2 := blk_frozen BK190.out 2; have hfz85_3 := blk_frozen BK190.out 3; have hfz85_4 := blk_frozen BK190.out 4; have hfz85_5 := blk_frozen BK190.out 5) | (go_at_call 25; (with_reducible refine (layout_Most.calls t182 t183 t184 t185 t186 _ _ t187 t193 _ ?side1 ?side2 A64.out).mono ?_); (case side1 => repeat (first | exact (Kd.N_reads' HO189.out).2.2 | (with_reducible refine Kd.C_alloc ?_ _) | (with_reducible refine Kd.C_drewN ?_ _) | (with_reducible refine Kd.C_drew ?_))); (case side2 => exact (Kd.N_reads' HO189.out).2.1); rintro e w86 ⟨rfl, hb⟩; have n0_ := Aside0.mk (Kd.N_below (by (with_reducible repeat (first | apply Kd.N_alloc | apply Kd.N_drewN | apply Kd.N_drew)); exact HO189.out) hb); have n1_ := Aside0.mk (blk_below (g := gb190) (o := .cells #[.int .i64 t182, .int .i64 t183, .int .i64 t184, .int .i64 t185, .int .i64 t186, .slice Ao59 t187.length co59] 27 (0, 0)) (by (with_reducible repeat (first | refine blk_drewN ?_ _ | refine blk_drew ?_ | refine blk_alloc ?_ _)); exact BK190.out) hb); have n2_ := Aside0.mk (below_step (by repeat (first | (with_reducible first | exact HB.out | apply below_alloc | apply pw_below_drewN | apply below_drew1 | refine below_set ?_ GE190.out) | exact HB.out)) hb); clear HO189; clear BK190; clear HB; have HO189 := n0_; have BK190 := n1_; have HB := n2_; clear n0_ n1_ n2_; (try clear hb); (try clear hb2); (try clear hk); (try clear hi); have hcz87_0 : w86.cell? ⟨gb190, 0, none⟩ = some (.int .i64 t182) := (blk_cell BK190.out 0).trans rfl; have hcz87_1 : w86.cell? ⟨gb190, 1, none⟩ = some (.int .i64 t183) := (blk_cell BK190.out 1).trans rfl; have hcz87_2 : w86.cell? ⟨gb190, 2, none⟩ = some (.int .i64 t184) := (blk_cell BK190.out 2).trans rfl; have hcz87_3 : w86.cell? ⟨gb190, 3, none⟩ = some (.int .i64 t185) := (blk_cell BK190.out 3).trans rfl; have hcz87_4 : w86.cell? ⟨gb190, 4, none⟩ = some (.int .i64 t186) := (blk_cell BK190.out 4).trans rfl; have hcz87_5 : w86.cell? ⟨gb190, 5, none⟩ = some (.slice Ao59 t187.length co59) := (blk_cell BK190.out 5).trans rfl; have hfz87_0 := blk_frozen BK190.out 0; have hfz87_1 := blk_frozen BK190.out 1; have hfz87_2 := blk_frozen BK190.out 2; have hfz87_3 := blk_frozen BK190.out 3; have hfz87_4 := blk_frozen BK190.out 4; have hfz87_5 := blk_frozen BK190.out 5) | (go_at_call 23; (with_reducible refine (layout_Open.calls t182 t183 t184 t185 t186 _ _ t187 t194 _ ?side1 ?side2 A66.out).mono ?_); (case side1 => repeat (first | exact (Kd.N_reads' HO189.out).2.2 | (with_reducible refine Kd.C_alloc ?_ _) | (with_reducible refine Kd.C_drewN ?_ _) | (with_reducible refine Kd.C_drew ?_))); (case side2 => exact (Kd.N_reads' HO189.out).2.1); rintro e w88 ⟨rfl, hb⟩; have n0_ := Aside0.mk (Kd.N_below (by (with_reducible repeat (first | apply Kd.N_alloc | apply Kd.N_drewN | apply Kd.N_drew)); exact HO189.out) hb); have n1_ := Aside0.mk (blk_below (g := gb190) (o := .cells #[.int .i64 t182, .int .i64 t183, .int .i64 t184, .int .i64 t185, .int .i64 t186, .slice Ao59 t187.length co59] 27 (0, 0)) (by (with_reducible repeat (first | refine blk_drewN ?_ _ | refine blk_drew ?_ | refine blk_alloc ?_ _)); exact BK190.out) hb); have n2_ := Aside0.mk (below_step (by repeat (first | (with_reducible first | exact HB.out | apply below_alloc | apply pw_below_drewN | apply below_drew1 | refine below_set ?_ GE190.out) | exact HB.out)) hb); clear HO189; clear BK190; clear HB; have HO189 := n0_; have BK190 := n1_; have HB := n2_; clear n0_ n1_ n2_; (try clear hb); (try clear hb2); (try clear hk); (try clear hi)))
                            go_meet
                            case rel => exact ⟨_, ((t194 != false)), (by first | rfl | (simp; done) | (simp [*]; done)), H', ⟨by have := HJ4.out; have := HK2.out; first | omega | exact Nat.le_refl _⟩, ⟨by (with_reducible repeat (first | apply Kd.N_alloc | apply Kd.N_drewN | apply Kd.N_drew)); exact Kd.N_mono HO189.out (fun _ hk => hk.2)⟩, ⟨by (with_reducible repeat (first | refine blk_drewN ?_ _ | refine blk_drew ?_ | refine blk_alloc ?_ _)); exact BK190.out⟩, ⟨by repeat (first | (with_reducible first | exact HB.out | apply below_alloc | apply pw_below_drewN | apply below_drew1 | refine below_set ?_ GE190.out) | exact HB.out)⟩⟩
                        · rw [if_neg c65] at H
                          have c65b0 : (t193 == x4_2) = false := beq_eq_false_iff_ne.mpr c65
                          have c65b1 : (t193 != x4_2) = true := bne_iff_ne.mpr c65
                          have H' := Aside0.mk H
                          clear H
                          have hcz89_0 : w57.cell? ⟨gb190, 0, none⟩ = some (.int .i64 0) := (blk_cell BK190.out 0).trans rfl
                          have hcz89_1 : w57.cell? ⟨gb190, 1, none⟩ = some (.int .i64 0) := (blk_cell BK190.out 1).trans rfl
                          have hcz89_2 : w57.cell? ⟨gb190, 2, none⟩ = some (.int .i64 0) := (blk_cell BK190.out 2).trans rfl
                          have hcz89_3 : w57.cell? ⟨gb190, 3, none⟩ = some (.int .i64 0) := (blk_cell BK190.out 3).trans rfl
                          have hcz89_4 : w57.cell? ⟨gb190, 4, none⟩ = some (.int .i64 0) := (blk_cell BK190.out 4).trans rfl
                          have hcz89_5 : w57.cell? ⟨gb190, 5, none⟩ = some (.slice none 0 0) := (blk_cell BK190.out 5).trans rfl
                          have hfz89_0 := blk_frozen BK190.out 0
                          have hfz89_1 := blk_frozen BK190.out 1
                          have hfz89_2 := blk_frozen BK190.out 2
                          have hfz89_3 := blk_frozen BK190.out 3
                          have hfz89_4 := blk_frozen BK190.out 4
                          have hfz89_5 := blk_frozen BK190.out 5
                          go_wp2_with (first | ((with_reducible refine gate_callee (f := 14) rfl ?_); refine goesL_ (some 61) rfl rfl Try.func14 (by kernel_rfl) rfl #[.agg #[.int .i64 t182, .int .i64 t183, .int .i64 t184, .int .i64 t185, .int .i64 t186, .slice Ao59 t187.length co59]] rfl (by (try simp only [List.map_toArray, List.map_cons, List.map_nil]); first | done | rfl | (simp only [List.length_drop, List.length_take]; rfl)) ?_; (with_reducible refine (layout_Check.calls t182 t183 t184 t185 t186 _ _ t187 t191 _ ?side1 ?side2 A60.out).mono ?_); (case side1 => refine (Kd.N_reads' (e := 27) (base := w.heap.size) (ok := fun k_ => (True ∧ k_ ≠ gb190)) (n := t187.length) (c := co59) ?_).2.2; exact (by (with_reducible repeat (first | apply Kd.N_alloc | apply Kd.N_drewN | apply Kd.N_drew)); exact (Kd.N_mono (Kd.N_far (p := ⟨gb190, 5, none⟩) (Kd.N_far (p := ⟨gb190, 4, none⟩) (Kd.N_far (p := ⟨gb190, 3, none⟩) (Kd.N_far (p := ⟨gb190, 2, none⟩) (Kd.N_far (p := ⟨gb190, 1, none⟩) (Kd.N_far (p := ⟨gb190, 0, none⟩) (Kd.N_mono HO189.out (fun k_ hk => (⟨hk, hk.2⟩ : _ ∧ k_ ≠ gb190))) (fun _ hk => hk.2) (.int .i64 t182)) (fun _ hk => hk.2) (.int .i64 t183)) (fun _ hk => hk.2) (.int .i64 t184)) (fun _ hk => hk.2) (.int .i64 t185)) (fun _ hk => hk.2) (.int .i64 t186)) (fun _ hk => hk.2) (.slice Ao59 t187.length co59)) (fun _ h_ => h_.1)))); (case side2 => exact (Kd.N_reads' HO189.out).2.1); rintro e w90 ⟨rfl, hb⟩; refine ⟨_, rfl, ?_⟩; have n0_ := Aside0.mk (Kd.N_below (by (with_reducible repeat (first | apply Kd.N_alloc | apply Kd.N_drewN | apply Kd.N_drew)); exact (Kd.N_mono (Kd.N_far (p := ⟨gb190, 5, none⟩) (Kd.N_far (p := ⟨gb190, 4, none⟩) (Kd.N_far (p := ⟨gb190, 3, none⟩) (Kd.N_far (p := ⟨gb190, 2, none⟩) (Kd.N_far (p := ⟨gb190, 1, none⟩) (Kd.N_far (p := ⟨gb190, 0, none⟩) (Kd.N_mono HO189.out (fun k_ hk => (⟨hk, hk.2⟩ : _ ∧ k_ ≠ gb190))) (fun _ hk => hk.2) (.int .i64 t182)) (fun _ hk => hk.2) (.int .i64 t183)) (fun _ hk => hk.2) (.int .i64 t184)) (fun _ hk => hk.2) (.int .i64 t185)) (fun _ hk => hk.2) (.int .i64 t186)) (fun _ hk => hk.2) (.slice Ao59 t187.length co59)) (fun _ h_ => h_.1))) hb); have n1_ := Aside0.mk (blk_below (g := gb190) (o := .cells #[.int .i64 t182, .int .i64 t183, .int .i64 t184, .int .i64 t185, .int .i64 t186, .slice Ao59 t187.length co59] 27 (0, 0)) (by (with_reducible repeat (first | refine blk_drewN ?_ _ | refine blk_drew ?_ | refine blk_alloc ?_ _)); refine blk_put (cs := #[.int .i64 t182, .int .i64 t183, .int .i64 t184, .int .i64 t185, .int .i64 t186, .slice none 0 0]) ?_ 5 _ rfl; (with_reducible repeat (first | refine blk_drewN ?_ _ | refine blk_drew ?_ | refine blk_alloc ?_ _)); refine blk_put (cs := #[.int .i64 t182, .int .i64 t183, .int .i64 t184, .int .i64 t185, .int .i64 0, .slice none 0 0]) ?_ 4 _ rfl; (with_reducible repeat (first | refine blk_drewN ?_ _ | refine blk_drew ?_ | refine blk_alloc ?_ _)); refine blk_put (cs := #[.int .i64 t182, .int .i64 t183, .int .i64 t184, .int .i64 0, .int .i64 0, .slice none 0 0]) ?_ 3 _ rfl; (with_reducible repeat (first | refine blk_drewN ?_ _ | refine blk_drew ?_ | refine blk_alloc ?_ _)); refine blk_put (cs := #[.int .i64 t182, .int .i64 t183, .int .i64 0, .int .i64 0, .int .i64 0, .slice none 0 0]) ?_ 2 _ rfl; (with_reducible repeat (first | refine blk_drewN ?_ _ | refine blk_drew ?_ | refine blk_alloc ?_ _)); refine blk_put (cs := #[.int .i64 t182, .int .i64 0, .int .i64 0, .int .i64 0, .int .i64 0, .slice none 0 0]) ?_ 1 _ rfl; (with_reducible repeat (first | refine blk_drewN ?_ _ | refine blk_drew ?_ | refine blk_alloc ?_ _)); refine blk_put (cs := #[.int .i64 0, .int .i64 0, .int .i64 0, .int .i64 0, .int .i64 0, .slice none 0 0]) ?_ 0 _ rfl; (with_reducible repeat (first | refine blk_drewN ?_ _ | refine blk_drew ?_ | refine blk_alloc ?_ _)); exact BK190.out) hb); have n2_ := Aside0.mk (below_step (by repeat (first | (with_reducible first | exact HB.out | apply below_alloc | apply pw_below_drewN | apply below_drew1 | refine below_set ?_ GE190.out) | exact HB.out)) hb); clear HO189; clear BK190; clear HB; have HO189 := n0_; have BK190 := n1_; have HB := n2_; clear n0_ n1_ n2_; (try clear hb); (try clear hb2); (try clear hk); (try clear hi); have hcz91_0 : w90.cell? ⟨gb190, 0, none⟩ = some (.int .i64 t182) := (blk_cell BK190.out 0).trans rfl; have hcz91_1 : w90.cell? ⟨gb190, 1, none⟩ = some (.int .i64 t183) := (blk_cell BK190.out 1).trans rfl; have hcz91_2 : w90.cell? ⟨gb190, 2, none⟩ = some (.int .i64 t184) := (blk_cell BK190.out 2).trans rfl; have hcz91_3 : w90.cell? ⟨gb190, 3, none⟩ = some (.int .i64 t185) := (blk_cell BK190.out 3).trans rfl; have hcz91_4 : w90.cell? ⟨gb190, 4, none⟩ = some (.int .i64 t186) := (blk_cell BK190.out 4).trans rfl; have hcz91_5 : w90.cell? ⟨gb190, 5, none⟩ = some (.slice Ao59 t187.length co59) := (blk_cell BK190.out 5).trans rfl; have hfz91_0 := blk_frozen BK190.out 0; have hfz91_1 := blk_frozen BK190.out 1; have hfz91_2 := blk_frozen BK190.out 2; have hfz91_3 := blk_frozen BK190.out 3; have hfz91_4 := blk_frozen BK190.out 4; have hfz91_5 := blk_frozen BK190.out 5) | (go_at_call 24; (with_reducible refine (layout_Least.calls t182 t183 t184 t185 t186 _ _ t187 t192 _ ?side1 ?side2 A62.out).mono ?_); (case side1 => repeat (first | exact (Kd.N_reads' HO189.out).2.2 | (with_reducible refine Kd.C_alloc ?_ _) | (with_reducible refine Kd.C_drewN ?_ _) | (with_reducible refine Kd.C_drew ?_))); (case side2 => exact (Kd.N_reads' HO189.out).2.1); rintro e w92 ⟨rfl, hb⟩; have n0_ := Aside0.mk (Kd.N_below (by (with_reducible repeat (first | apply Kd.N_alloc | apply Kd.N_drewN | apply Kd.N_drew)); exact HO189.out) hb); have n1_ := Aside0.mk (blk_below (g := gb190) (o := .cells #[.int .i64 t182, .int .i64 t183, .int .i64 t184, .int .i64 t185, .int .i64 t186, .slice Ao59 t187.length co59] 27 (0, 0)) (by (with_reducible repeat (first | refine blk_drewN ?_ _ | refine blk_drew ?_ | refine blk_alloc ?_ _)); exact BK190.out) hb); have n2_ := Aside0.mk (below_step (by repeat (first | (with_reducible first | exact HB.out | apply below_alloc | apply pw_below_drewN | apply below_drew1 | refine below_set ?_ GE190.out) | exact HB.out)) hb); clear HO189; clear BK190; clear HB; have HO189 := n0_; have BK190 := n1_; have HB := n2_; clear n0_ n1_ n2_; (try clear hb); (try clear hb2); (try clear hk); (try clear hi); have hcz93_0 : w92.cell? ⟨gb190, 0, none⟩ = some (.int .i64 t182) := (blk_cell BK190.out 0).trans rfl; have hcz93_1 : w92.cell? ⟨gb190, 1, none⟩ = some (.int .i64 t183) := (blk_cell BK190.out 1).trans rfl; have hcz93_2 : w92.cell? ⟨gb190, 2, none⟩ = some (.int .i64 t184) := (blk_cell BK190.out 2).trans rfl; have hcz93_3 : w92.cell? ⟨gb190, 3, none⟩ = some (.int .i64 t185) := (blk_cell BK190.out 3).trans rfl; have hcz93_4 : w92.cell? ⟨gb190, 4, none⟩ = some (.int .i64 t186) := (blk_cell BK190.out 4).trans rfl; have hcz93_5 : w92.cell? ⟨gb190, 5, none⟩ = some (.slice Ao59 t187.length co59) := (blk_cell BK190.out 5).trans rfl; have hfz93_0 := blk_frozen BK190.out 0; have hfz93_1 := blk_frozen BK190.out 1; have hfz93_2 := blk_frozen BK190.out 2; have hfz93_3 := blk_frozen BK190.out 3; have hfz93_4 := blk_frozen BK190.out 4; have hfz93_5 := blk_frozen BK190.out 5) | (go_at_call 25; (with_reducible refine (layout_Most.calls t182 t183 t184 t185 t186 _ _ t187 t193 _ ?side1 ?side2 A64.out).mono ?_); (case side1 => repeat (first | exact (Kd.N_reads' HO189.out).2.2 | (with_reducible refine Kd.C_alloc ?_ _) | (with_reducible refine Kd.C_drewN ?_ _) | (with_reducible refine Kd.C_drew ?_))); (case side2 => exact (Kd.N_reads' HO189.out).2.1); rintro e w94 ⟨rfl, hb⟩; have n0_ := Aside0.mk (Kd.N_below (by (with_reducible repeat (first | apply Kd.N_alloc | apply Kd.N_drewN | apply Kd.N_drew)); exact HO189.out) hb); have n1_ := Aside0.mk (blk_below (g := gb190) (o := .cells #[.int .i64 t182, .int .i64 t183, .int .i64 t184, .int .i64 t185, .int .i64 t186, .slice Ao59 t187.length co59] 27 (0, 0)) (by (with_reducible repeat (first | refine blk_drewN ?_ _ | refine blk_drew ?_ | refine blk_alloc ?_ _)); exact BK190.out) hb); have n2_ := Aside0.mk (below_step (by repeat (first | (with_reducible first | exact HB.out | apply below_alloc | apply pw_below_drewN | apply below_drew1 | refine below_set ?_ GE190.out) | exact HB.out)) hb); clear HO189; clear BK190; clear HB; have HO189 := n0_; have BK190 := n1_; have HB := n2_; clear n0_ n1_ n2_; (try clear hb); (try clear hb2); (try clear hk); (try clear hi)))
                          go_meet
                          case rel => exact ⟨_, (true), (by first | rfl | (simp; done) | (simp [*]; done)), H', ⟨by have := HJ4.out; have := HK2.out; first | omega | exact Nat.le_refl _⟩, ⟨by (with_reducible repeat (first | apply Kd.N_alloc | apply Kd.N_drewN | apply Kd.N_drew)); exact Kd.N_mono HO189.out (fun _ hk => hk.2)⟩, ⟨by (with_reducible repeat (first | refine blk_drewN ?_ _ | refine blk_drew ?_ | refine blk_alloc ?_ _)); exact BK190.out⟩, ⟨by repeat (first | (with_reducible first | exact HB.out | apply below_alloc | apply pw_below_drewN | apply below_drew1 | refine below_set ?_ GE190.out) | exact HB.out)⟩⟩
                      · rw [if_neg c63] at H
                        have c63b0 : (t192 == x3_2) = false := beq_eq_false_iff_ne.mpr c63
                        have c63b1 : (t192 != x3_2) = true := bne_iff_ne.mpr c63
                        have H' := Aside0.mk H
                        clear H
                        have hcz95_0 : w57.cell? ⟨gb190, 0, none⟩ = some (.int .i64 0) := (blk_cell BK190.out 0).trans rfl
                        have hcz95_1 : w57.cell? ⟨gb190, 1, none⟩ = some (.int .i64 0) := (blk_cell BK190.out 1).trans rfl
                        have hcz95_2 : w57.cell? ⟨gb190, 2, none⟩ = some (.int .i64 0) := (blk_cell BK190.out 2).trans rfl
                        have hcz95_3 : w57.cell? ⟨gb190, 3, none⟩ = some (.int .i64 0) := (blk_cell BK190.out 3).trans rfl
                        have hcz95_4 : w57.cell? ⟨gb190, 4, none⟩ = some (.int .i64 0) := (blk_cell BK190.out 4).trans rfl
                        have hcz95_5 : w57.cell? ⟨gb190, 5, none⟩ = some (.slice none 0 0) := (blk_cell BK190.out 5).trans rfl
                        have hfz95_0 := blk_frozen BK190.out 0
                        have hfz95_1 := blk_frozen BK190.out 1
                        have hfz95_2 := blk_frozen BK190.out 2
                        have hfz95_3 := blk_frozen BK190.out 3
                        have hfz95_4 := blk_frozen BK190.out 4
                        have hfz95_5 := blk_frozen BK190.out 5
                        go_wp2_with (first | ((with_reducible refine gate_callee (f := 14) rfl ?_); refine goesL_ (some 61) rfl rfl Try.func14 (by kernel_rfl) rfl #[.agg #[.int .i64 t182, .int .i64 t183, .int .i64 t184, .int .i64 t185, .int .i64 t186, .slice Ao59 t187.length co59]] rfl (by (try simp only [List.map_toArray, List.map_cons, List.map_nil]); first | done | rfl | (simp only [List.length_drop, List.length_take]; rfl)) ?_; (with_reducible refine (layout_Check.calls t182 t183 t184 t185 t186 _ _ t187 t191 _ ?side1 ?side2 A60.out).mono ?_); (case side1 => refine (Kd.N_reads' (e := 27) (base := w.heap.size) (ok := fun k_ => (True ∧ k_ ≠ gb190)) (n := t187.length) (c := co59) ?_).2.2; exact (by (with_reducible repeat (first | apply Kd.N_alloc | apply Kd.N_drewN | apply Kd.N_drew)); exact (Kd.N_mono (Kd.N_far (p := ⟨gb190, 5, none⟩) (Kd.N_far (p := ⟨gb190, 4, none⟩) (Kd.N_far (p := ⟨gb190, 3, none⟩) (Kd.N_far (p := ⟨gb190, 2, none⟩) (Kd.N_far (p := ⟨gb190, 1, none⟩) (Kd.N_far (p := ⟨gb190, 0, none⟩) (Kd.N_mono HO189.out (fun k_ hk => (⟨hk, hk.2⟩ : _ ∧ k_ ≠ gb190))) (fun _ hk => hk.2) (.int .i64 t182)) (fun _ hk => hk.2) (.int .i64 t183)) (fun _ hk => hk.2) (.int .i64 t184)) (fun _ hk => hk.2) (.int .i64 t185)) (fun _ hk => hk.2) (.int .i64 t186)) (fun _ hk => hk.2) (.slice Ao59 t187.length co59)) (fun _ h_ => h_.1)))); (case side2 => exact (Kd.N_reads' HO189.out).2.1); rintro e w96 ⟨rfl, hb⟩; refine ⟨_, rfl, ?_⟩; have n0_ := Aside0.mk (Kd.N_below (by (with_reducible repeat (first | apply Kd.N_alloc | apply Kd.N_drewN | apply Kd.N_drew)); exact (Kd.N_mono (Kd.N_far (p := ⟨gb190, 5, none⟩) (Kd.N_far (p := ⟨gb190, 4, none⟩) (Kd.N_far (p := ⟨gb190, 3, none⟩) (Kd.N_far (p := ⟨gb190, 2, none⟩) (Kd.N_far (p := ⟨gb190, 1, none⟩) (Kd.N_far (p := ⟨gb190, 0, none⟩) (Kd.N_mono HO189.out (fun k_ hk => (⟨hk, hk.2⟩ : _ ∧ k_ ≠ gb190))) (fun _ hk => hk.2) (.int .i64 t182)) (fun _ hk => hk.2) (.int .i64 t183)) (fun _ hk => hk.2) (.int .i64 t184)) (fun _ hk => hk.2) (.int .i64 t185)) (fun _ hk => hk.2) (.int .i64 t186)) (fun _ hk => hk.2) (.slice Ao59 t187.length co59)) (fun _ h_ => h_.1))) hb); have n1_ := Aside0.mk (blk_below (g := gb190) (o := .cells #[.int .i64 t182, .int .i64 t183, .int .i64 t184, .int .i64 t185, .int .i64 t186, .slice Ao59 t187.length co59] 27 (0, 0)) (by (with_reducible repeat (first | refine blk_drewN ?_ _ | refine blk_drew ?_ | refine blk_alloc ?_ _)); refine blk_put (cs := #[.int .i64 t182, .int .i64 t183, .int .i64 t184, .int .i64 t185, .int .i64 t186, .slice none 0 0]) ?_ 5 _ rfl; (with_reducible repeat (first | refine blk_drewN ?_ _ | refine blk_drew ?_ | refine blk_alloc ?_ _)); refine blk_put (cs := #[.int .i64 t182, .int .i64 t183, .int .i64 t184, .int .i64 t185, .int .i64 0, .slice none 0 0]) ?_ 4 _ rfl; (with_reducible repeat (first | refine blk_drewN ?_ _ | refine blk_drew ?_ | refine blk_alloc ?_ _)); refine blk_put (cs := #[.int .i64 t182, .int .i64 t183, .int .i64 t184, .int .i64 0, .int .i64 0, .slice none 0 0]) ?_ 3 _ rfl; (with_reducible repeat (first | refine blk_drewN ?_ _ | refine blk_drew ?_ | refine blk_alloc ?_ _)); refine blk_put (cs := #[.int .i64 t182, .int .i64 t183, .int .i64 0, .int .i64 0, .int .i64 0, .slice none 0 0]) ?_ 2 _ rfl; (with_reducible repeat (first | refine blk_drewN ?_ _ | refine blk_drew ?_ | refine blk_alloc ?_ _)); refine blk_put (cs := #[.int .i64 t182, .int .i64 0, .int .i64 0, .int .i64 0, .int .i64 0, .slice none 0 0]) ?_ 1 _ rfl; (with_reducible repeat (first | refine blk_drewN ?_ _ | refine blk_drew ?_ | refine blk_alloc ?_ _)); refine blk_put (cs := #[.int .i64 0, .int .i64 0, .int .i64 0, .int .i64 0, .int .i64 0, .slice none 0 0]) ?_ 0 _ rfl; (with_reducible repeat (first | refine blk_drewN ?_ _ | refine blk_drew ?_ | refine blk_alloc ?_ _)); exact BK190.out) hb); have n2_ := Aside0.mk (below_step (by repeat (first | (with_reducible first | exact HB.out | apply below_alloc | apply pw_below_drewN | apply below_drew1 | refine below_set ?_ GE190.out) | exact HB.out)) hb); clear HO189; clear BK190; clear HB; have HO189 := n0_; have BK190 := n1_; have HB := n2_; clear n0_ n1_ n2_; (try clear hb); (try clear hb2); (try clear hk); (try clear hi); have hcz97_0 : w96.cell? ⟨gb190, 0, none⟩ = some (.int .i64 t182) := (blk_cell BK190.out 0).trans rfl; have hcz97_1 : w96.cell? ⟨gb190, 1, none⟩ = some (.int .i64 t183) := (blk_cell BK190.out 1).trans rfl; have hcz97_2 : w96.cell? ⟨gb190, 2, none⟩ = some (.int .i64 t184) := (blk_cell BK190.out 2).trans rfl; have hcz97_3 : w96.cell? ⟨gb190, 3, none⟩ = some (.int .i64 t185) := (blk_cell BK190.out 3).trans rfl; have hcz97_4 : w96.cell? ⟨gb190, 4, none⟩ = some (.int .i64 t186) := (blk_cell BK190.out 4).trans rfl; have hcz97_5 : w96.cell? ⟨gb190, 5, none⟩ = some (.slice Ao59 t187.length co59) := (blk_cell BK190.out 5).trans rfl; have hfz97_0 := blk_frozen BK190.out 0; have hfz97_1 := blk_frozen BK190.out 1; have hfz97_2 := blk_frozen BK190.out 2; have hfz97_3 := blk_frozen BK190.out 3; have hfz97_4 := blk_frozen BK190.out 4; have hfz97_5 := blk_frozen BK190.out 5) | (go_at_call 24; (with_reducible refine (layout_Least.calls t182 t183 t184 t185 t186 _ _ t187 t192 _ ?side1 ?side2 A62.out).mono ?_); (case side1 => repeat (first | exact (Kd.N_reads' HO189.out).2.2 | (with_reducible refine Kd.C_alloc ?_ _) | (with_reducible refine Kd.C_drewN ?_ _) | (with_reducible refine Kd.C_drew ?_))); (case side2 => exact (Kd.N_reads' HO189.out).2.1); rintro e w98 ⟨rfl, hb⟩; have n0_ := Aside0.mk (Kd.N_below (by (with_reducible repeat (first | apply Kd.N_alloc | apply Kd.N_drewN | apply Kd.N_drew)); exact HO189.out) hb); have n1_ := Aside0.mk (blk_below (g := gb190) (o := .cells #[.int .i64 t182, .int .i64 t183, .int .i64 t184, .int .i64 t185, .int .i64 t186, .slice Ao59 t187.length co59] 27 (0, 0)) (by (with_reducible repeat (first | refine blk_drewN ?_ _ | refine blk_drew ?_ | refine blk_alloc ?_ _)); exact BK190.out) hb); have n2_ := Aside0.mk (below_step (by repeat (first | (with_reducible first | exact HB.out | apply below_alloc | apply pw_below_drewN | apply below_drew1 | refine below_set ?_ GE190.out) | exact HB.out)) hb); clear HO189; clear BK190; clear HB; have HO189 := n0_; have BK190 := n1_; have HB := n2_; clear n0_ n1_ n2_; (try clear hb); (try clear hb2); (try clear hk); (try clear hi)))
                        go_meet
                        case rel => exact ⟨_, (true), (by first | rfl | (simp; done) | (simp [*]; done)), H', ⟨by have := HJ4.out; have := HK2.out; first | omega | exact Nat.le_refl _⟩, ⟨by (with_reducible repeat (first | apply Kd.N_alloc | apply Kd.N_drewN | apply Kd.N_drew)); exact Kd.N_mono HO189.out (fun _ hk => hk.2)⟩, ⟨by (with_reducible repeat (first | refine blk_drewN ?_ _ | refine blk_drew ?_ | refine blk_alloc ?_ _)); exact BK190.out⟩, ⟨by repeat (first | (with_reducible first | exact HB.out | apply below_alloc | apply pw_below_drewN | apply below_drew1 | refine below_set ?_ GE190.out) | exact HB.out)⟩⟩
                    · rw [if_neg c61] at H
                      have c61b0 : (t191 == 0) = false := beq_eq_false_iff_ne.mpr c61
                      have c61b1 : (t191 != 0) = true := bne_iff_ne.mpr c61
                      (first | rw [c61b0] | (simp only [i64_w, i32_w]; rw [c61b0]) | skip)
                      have H' := Aside0.mk H
                      clear H
                      have hcz99_0 : w57.cell? ⟨gb190, 0, none⟩ = some (.int .i64 0) := (blk_cell BK190.out 0).trans rfl
                      have hcz99_1 : w57.cell? ⟨gb190, 1, none⟩ = some (.int .i64 0) := (blk_cell BK190.out 1).trans rfl
                      have hcz99_2 : w57.cell? ⟨gb190, 2, none⟩ = some (.int .i64 0) := (blk_cell BK190.out 2).trans rfl
                      have hcz99_3 : w57.cell? ⟨gb190, 3, none⟩ = some (.int .i64 0) := (blk_cell BK190.out 3).trans rfl
                      have hcz99_4 : w57.cell? ⟨gb190, 4, none⟩ = some (.int .i64 0) := (blk_cell BK190.out 4).trans rfl
                      have hcz99_5 : w57.cell? ⟨gb190, 5, none⟩ = some (.slice none 0 0) := (blk_cell BK190.out 5).trans rfl
                      have hfz99_0 := blk_frozen BK190.out 0
                      have hfz99_1 := blk_frozen BK190.out 1
                      have hfz99_2 := blk_frozen BK190.out 2
                      have hfz99_3 := blk_frozen BK190.out 3
                      have hfz99_4 := blk_frozen BK190.out 4
                      have hfz99_5 := blk_frozen BK190.out 5
                      go_wp2_with (first | ((with_reducible refine gate_callee (f := 14) rfl ?_); refine goesL_ (some 61) rfl rfl Try.func14 (by kernel_rfl) rfl #[.agg #[.int .i64 t182, .int .i64 t183, .int .i64 t184, .int .i64 t185, .int .i64 t186, .slice Ao59 t187.length co59]] rfl (by (try simp only [List.map_toArray, List.map_cons, List.map_nil]); first | done | rfl | (simp only [List.length_drop, List.length_take]; rfl)) ?_; (with_reducible refine (layout_Check.calls t182 t183 t184 t185 t186 _ _ t187 t191 _ ?side1 ?side2 A60.out).mono ?_); (case side1 => refine (Kd.N_reads' (e := 27) (base := w.heap.size) (ok := fun k_ => (True ∧ k_ ≠ gb190)) (n := t187.length) (c := co59) ?_).2.2; exact (by (with_reducible repeat (first | apply Kd.N_alloc | apply Kd.N_drewN | apply Kd.N_drew)); exact (Kd.N_mono (Kd.N_far (p := ⟨gb190, 5, none⟩) (Kd.N_far (p := ⟨gb190, 4, none⟩) (Kd.N_far (p := ⟨gb190, 3, none⟩) (Kd.N_far (p := ⟨gb190, 2, none⟩) (Kd.N_far (p := ⟨gb190, 1, none⟩) (Kd.N_far (p := ⟨gb190, 0, none⟩) (Kd.N_mono HO189.out (fun k_ hk => (⟨hk, hk.2⟩ : _ ∧ k_ ≠ gb190))) (fun _ hk => hk.2) (.int .i64 t182)) (fun _ hk => hk.2) (.int .i64 t183)) (fun _ hk => hk.2) (.int .i64 t184)) (fun _ hk => hk.2) (.int .i64 t185)) (fun _ hk => hk.2) (.int .i64 t186)) (fun _ hk => hk.2) (.slice Ao59 t187.length co59)) (fun _ h_ => h_.1)))); (case side2 => exact (Kd.N_reads' HO189.out).2.1); rintro e w100 ⟨rfl, hb⟩; refine ⟨_, rfl, ?_⟩; have n0_ := Aside0.mk (Kd.N_below (by (with_reducible repeat (first | apply Kd.N_alloc | apply Kd.N_drewN | apply Kd.N_drew)); exact (Kd.N_mono (Kd.N_far (p := ⟨gb190, 5, none⟩) (Kd.N_far (p := ⟨gb190, 4, none⟩) (Kd.N_far (p := ⟨gb190, 3, none⟩) (Kd.N_far (p := ⟨gb190, 2, none⟩) (Kd.N_far (p := ⟨gb190, 1, none⟩) (Kd.N_far (p := ⟨gb190, 0, none⟩) (Kd.N_mono HO189.out (fun k_ hk => (⟨hk, hk.2⟩ : _ ∧ k_ ≠ gb190))) (fun _ hk => hk.2) (.int .i64 t182)) (fun _ hk => hk.2) (.int .i64 t183)) (fun _ hk => hk.2) (.int .i64 t184)) (fun _ hk => hk.2) (.int .i64 t185)) (fun _ hk => hk.2) (.int .i64 t186)) (fun _ hk => hk.2) (.slice Ao59 t187.length co59)) (fun _ h_ => h_.1))) hb); have n1_ := Aside0.mk (blk_below (g := gb190) (o := .cells #[.int .i64 t182, .int .i64 t183, .int .i64 t184, .int .i64 t185, .int .i64 t186, .slice Ao59 t187.length co59] 27 (0, 0)) (by (with_reducible repeat (first | refine blk_drewN ?_ _ | refine blk_drew ?_ | refine blk_alloc ?_ _)); refine blk_put (cs := #[.int .i64 t182, .int .i64 t183, .int .i64 t184, .int .i64 t185, .int .i64 t186, .slice none 0 0]) ?_ 5 _ rfl; (with_reducible repeat (first | refine blk_drewN ?_ _ | refine blk_drew ?_ | refine blk_alloc ?_ _)); refine blk_put (cs := #[.int .i64 t182, .int .i64 t183, .int .i64 t184, .int .i64 t185, .int .i64 0, .slice none 0 0]) ?_ 4 _ rfl; (with_reducible repeat (first | refine blk_drewN ?_ _ | refine blk_drew ?_ | refine blk_alloc ?_ _)); refine blk_put (cs := #[.int .i64 t182, .int .i64 t183, .int .i64 t184, .int .i64 0, .int .i64 0, .slice none 0 0]) ?_ 3 _ rfl; (with_reducible repeat (first | refine blk_drewN ?_ _ | refine blk_drew ?_ | refine blk_alloc ?_ _)); refine blk_put (cs := #[.int .i64 t182, .int .i64 t183, .int .i64 0, .int .i64 0, .int .i64 0, .slice none 0 0]) ?_ 2 _ rfl; (with_reducible repeat (first | refine blk_drewN ?_ _ | refine blk_drew ?_ | refine blk_alloc ?_ _)); refine blk_put (cs := #[.int .i64 t182, .int .i64 0, .int .i64 0, .int .i64 0, .int .i64 0, .slice none 0 0]) ?_ 1 _ rfl; (with_reducible repeat (first | refine blk_drewN ?_ _ | refine blk_drew ?_ | refine blk_alloc ?_ _)); refine blk_put (cs := #[.int .i64 0, .int .i64 0, .int .i64 0, .int .i64 0, .int .i64 0, .slice none 0 0]) ?_ 0 _ rfl; (with_reducible repeat (first | refine blk_drewN ?_ _ | refine blk_drew ?_ | refine blk_alloc ?_ _)); exact BK190.out) hb); have n2_ := Aside0.mk (below_step (by repeat (first | (with_reducible first | exact HB.out | apply below_alloc | apply pw_below_drewN | apply below_drew1 | refine below_set ?_ GE190.out) | exact HB.out)) hb); clear HO189; clear BK190; clear HB; have HO189 := n0_; have BK190 := n1_; have HB := n2_; clear n0_ n1_ n2_; (try clear hb); (try clear hb2); (try clear hk); (try clear hi)))
                      go_meet
                      case rel => exact ⟨_, (true), (by first | rfl | (simp; done) | (simp [*]; done)), H', ⟨by have := HJ4.out; have := HK2.out; first | omega | exact Nat.le_refl _⟩, ⟨by (with_reducible repeat (first | apply Kd.N_alloc | apply Kd.N_drewN | apply Kd.N_drew)); exact Kd.N_mono HO189.out (fun _ hk => hk.2)⟩, ⟨by (with_reducible repeat (first | refine blk_drewN ?_ _ | refine blk_drew ?_ | refine blk_alloc ?_ _)); exact BK190.out⟩, ⟨by repeat (first | (with_reducible first | exact HB.out | apply below_alloc | apply pw_below_drewN | apply below_drew1 | refine below_set ?_ GE190.out) | exact HB.out)⟩⟩
                  case rest =>
                    clear HC55
                    try clear c1
                    try clear p1
                    try clear q1
                    try clear hx1
                    try clear c2
                    try clear p2
                    try clear c3
                    try clear c3b0
                    try clear c3b1
                    try clear c4
                    try clear c4b0
                    try clear c4b1
                    try clear c6
                    try clear p6
                    try clear q6
                    try clear c7
                    try clear c8
                    try clear c13
                    try clear c14
                    try clear c16
                    try clear c16b0
                    try clear c17
                    try clear c17b0
                    try clear p17
                    try clear q17
                    try clear hx17
                    try clear c18
                    try clear c18b0
                    try clear c19
                    try clear p19
                    try clear q19
                    try clear hx19
                    try clear c21
                    try clear c23
                    try clear c23b0
                    try clear c23b1
                    try clear c24
                    try clear c25
                    try clear c25b0
                    try clear c26
                    try clear c31
                    try clear c46
                    try clear c61
                    try clear c61b0
                    try clear c61b1
                    try clear c63
                    try clear c63b0
                    try clear c63b1
                    try clear p64
                    try clear c65
                    try clear c65b0
                    try clear c65b1
                    try clear c67
                    try clear c67b0
                    try clear c67b1
                    try clear c69
                    try clear c69b0
                    try clear c70
                    try clear c70b0
                    try clear hcz21_0
                    try clear hcz21_1
                    try clear hcz21_2
                    try clear hcz21_3
                    try clear hcz21_4
                    try clear hcz21_5
                    try clear hcz26_0
                    try clear hcz26_1
                    try clear hcz26_2
                    try clear hcz26_3
                    try clear hcz26_4
                    try clear hcz26_5
                    try clear hcz28_0
                    try clear hcz28_1
                    try clear hcz28_2
                    try clear hcz28_3
                    try clear hcz28_4
                    try clear hcz28_5
                    try clear hcz32_0
                    try clear hcz32_1
                    try clear hcz32_2
                    try clear hcz32_3
                    try clear hcz32_4
                    try clear hcz32_5
                    try clear hcz34_0
                    try clear hcz34_1
                    try clear hcz34_2
                    try clear hcz34_3
                    try clear hcz34_4
                    try clear hcz34_5
                    try clear hcz36_0
                    try clear hcz36_1
                    try clear hcz36_2
                    try clear hcz36_3
                    try clear hcz36_4
                    try clear hcz36_5
                    try clear hcz38_0
                    try clear hcz38_1
                    try clear hcz38_2
                    try clear hcz38_3
                    try clear hcz38_4
                    try clear hcz38_5
                    try clear hcz40_0
                    try clear hcz40_1
                    try clear hcz40_2
                    try clear hcz40_3
                    try clear hcz40_4
                    try clear hcz40_5
                    try clear hcz42_0
                    try clear hcz42_1
                    try clear hcz42_2
                    try clear hcz42_3
                    try clear hcz42_4
                    try clear hcz42_5
                    try clear hcz44_0
                    try clear hcz44_1
                    try clear hcz44_2
                    try clear hcz44_3
                    try clear hcz44_4
                    try clear hcz44_5
                    try clear hcz58_0
                    try clear hcz58_1
                    try clear hcz58_2
                    try clear hcz58_3
                    try clear hcz58_4
                    try clear hcz58_5
                    try clear hcz72_0
                    try clear hcz72_1
                    try clear hcz72_2
                    try clear hcz72_3
                    try clear hcz72_4
                    try clear hcz72_5
                    try clear hcz74_0
                    try clear hcz74_1
                    try clear hcz74_2
                    try clear hcz74_3
                    try clear hcz74_4
                    try clear hcz74_5
                    try clear hcz76_0
                    try clear hcz76_1
                    try clear hcz76_2
                    try clear hcz76_3
                    try clear hcz76_4
                    try clear hcz76_5
                    try clear hcz78_0
                    try clear hcz78_1
                    try clear hcz78_2
                    try clear hcz78_3
                    try clear hcz78_4
                    try clear hcz78_5
                    try clear hcz81_0
                    try clear hcz81_1
                    try clear hcz81_2
                    try clear hcz81_3
                    try clear hcz81_4
                    try clear hcz81_5
                    try clear hcz83_0
                    try clear hcz83_1
                    try clear hcz83_2
                    try clear hcz83_3
                    try clear hcz83_4
                    try clear hcz83_5
                    try clear hcz85_0
                    try clear hcz85_1
                    try clear hcz85_2
                    try clear hcz85_3
                    try clear hcz85_4
                    try clear hcz85_5
                    try clear hcz87_0
                    try clear hcz87_1
                    try clear hcz87_2
                    try clear hcz87_3
                    try clear hcz87_4
                    try clear hcz87_5
                    try clear hcz89_0
                    try clear hcz89_1
                    try clear hcz89_2
                    try clear hcz89_3
                    try clear hcz89_4
                    try clear hcz89_5
                    try clear hcz91_0
                    try clear hcz91_1
                    try clear hcz91_2
                    try clear hcz91_3
                    try clear hcz91_4
                    try clear hcz91_5
                    try clear hcz93_0
                    try clear hcz93_1
                    try clear hcz93_2
                    try clear hcz93_3
                    try clear hcz93_4
                    try clear hcz93_5
                    try clear hcz95_0
                    try clear hcz95_1
                    try clear hcz95_2
                    try clear hcz95_3
                    try clear hcz95_4
                    try clear hcz95_5
                    try clear hcz97_0
                    try clear hcz97_1
                    try clear hcz97_2
                    try clear hcz97_3
                    try clear hcz97_4
                    try clear hcz97_5
                    try clear hcz99_0
                    try clear hcz99_1
                    try clear hcz99_2
                    try clear hcz99_3
                    try clear hcz99_4
                    try clear hcz99_5
                    try clear hfz21_0
                    try clear hfz21_1
                    try clear hfz21_2
                    try clear hfz21_3
                    try clear hfz21_4
                    try clear hfz21_5
                    try clear hfz26_0
                    try clear hfz26_1
                    try clear hfz26_2
                    try clear hfz26_3
                    try clear hfz26_4
                    try clear hfz26_5
                    try clear hfz28_0
                    try clear hfz28_1
                    try clear hfz28_2
                    try clear hfz28_3
                    try clear hfz28_4
                    try clear hfz28_5
                    try clear hfz32_0
                    try clear hfz32_1
                    try clear hfz32_2
                    try clear hfz32_3
                    try clear hfz32_4
                    try clear hfz32_5
                    try clear hfz34_0
                    try clear hfz34_1
                    try clear hfz34_2
                    try clear hfz34_3
                    try clear hfz34_4
                    try clear hfz34_5
                    try clear hfz36_0
                    try clear hfz36_1
                    try clear hfz36_2
                    try clear hfz36_3
                    try clear hfz36_4
                    try clear hfz36_5
                    try clear hfz38_0
                    try clear hfz38_1
                    try clear hfz38_2
                    try clear hfz38_3
                    try clear hfz38_4
                    try clear hfz38_5
                    try clear hfz40_0
                    try clear hfz40_1
                    try clear hfz40_2
                    try clear hfz40_3
                    try clear hfz40_4
                    try clear hfz40_5
                    try clear hfz42_0
                    try clear hfz42_1
                    try clear hfz42_2
                    try clear hfz42_3
                    try clear hfz42_4
                    try clear hfz42_5
                    try clear hfz44_0
                    try clear hfz44_1
                    try clear hfz44_2
                    try clear hfz44_3
                    try clear hfz44_4
                    try clear hfz44_5
                    try clear hfz58_0
                    try clear hfz58_1
                    try clear hfz58_2
                    try clear hfz58_3
                    try clear hfz58_4
                    try clear hfz58_5
                    try clear hfz72_0
                    try clear hfz72_1
                    try clear hfz72_2
                    try clear hfz72_3
                    try clear hfz72_4
                    try clear hfz72_5
                    try clear hfz74_0
                    try clear hfz74_1
                    try clear hfz74_2
                    try clear hfz74_3
                    try clear hfz74_4
                    try clear hfz74_5
                    try clear hfz76_0
                    try clear hfz76_1
                    try clear hfz76_2
                    try clear hfz76_3
                    try clear hfz76_4
                    try clear hfz76_5
                    try clear hfz78_0
                    try clear hfz78_1
                    try clear hfz78_2
                    try clear hfz78_3
                    try clear hfz78_4
                    try clear hfz78_5
                    try clear hfz81_0
                    try clear hfz81_1
                    try clear hfz81_2
                    try clear hfz81_3
                    try clear hfz81_4
                    try clear hfz81_5
                    try clear hfz83_0
                    try clear hfz83_1
                    try clear hfz83_2
                    try clear hfz83_3
                    try clear hfz83_4
                    try clear hfz83_5
                    try clear hfz85_0
                    try clear hfz85_1
                    try clear hfz85_2
                    try clear hfz85_3
                    try clear hfz85_4
                    try clear hfz85_5
                    try clear hfz87_0
                    try clear hfz87_1
                    try clear hfz87_2
                    try clear hfz87_3
                    try clear hfz87_4
                    try clear hfz87_5
                    try clear hfz89_0
                    try clear hfz89_1
                    try clear hfz89_2
                    try clear hfz89_3
                    try clear hfz89_4
                    try clear hfz89_5
                    try clear hfz91_0
                    try clear hfz91_1
                    try clear hfz91_2
                    try clear hfz91_3
                    try clear hfz91_4
                    try clear hfz91_5
                    try clear hfz93_0
                    try clear hfz93_1
                    try clear hfz93_2
                    try clear hfz93_3
                    try clear hfz93_4
                    try clear hfz93_5
                    try clear hfz95_0
                    try clear hfz95_1
                    try clear hfz95_2
                    try clear hfz95_3
                    try clear hfz95_4
                    try clear hfz95_5
                    try clear hfz97_0
                    try clear hfz97_1
                    try clear hfz97_2
                    try clear hfz97_3
                    try clear hfz97_4
                    try clear hfz97_5
                    try clear hfz99_0
                    try clear hfz99_1
                    try clear hfz99_2
                    try clear hfz99_3
                    try clear hfz99_4
                    try clear hfz99_5
                    try clear hx174_0
                    try clear hx174_1
                    try clear hx174_2
                    try clear hx174_3
                    try clear hx174_4
                    try clear hx174_5
                    try clear hx195_0
                    try clear hx195_1
                    try clear hx195_2
                    try clear hx195_3
                    try clear hx195_4
                    try clear hx195_5
                    try clear p1
                    try clear p17
                    try clear p174
                    try clear p195
                    try clear p2
                    try clear p6
                    try clear q1
                    try clear q17
                    try clear q174
                    try clear q195
                    try clear q6
                    obtain ⟨kq, x91_54, rfl, HA, HJ54, HO_191005, BK190, HB⟩ := hcut
                    cases kq with
                    | zero => exact absurd HA.out (by simp [passepartoutlaw04_FormRows.j3])
                    | succ kj54 =>
                      have H := HA.out
                      clear HA
                      simp only [passepartoutlaw04_FormRows.j3] at H
                      by_cases c101 : x91_54 = true
                      · subst c101
                        have H1 : (some false) = some r := by rw [if_pos rfl] at H; exact H
                        clear H
                        have H := H1
                        clear H1
                        obtain rfl := Option.some.inj H
                        go_wp2
                        go_ret
                        exact ⟨by first | rfl | (simp [errW_none, errW_some] <;> rfl) | (simp only [← hji2]; first | rfl | (simp [errW_none, errW_some] <;> rfl)) | (simp [*, errW_none, errW_some] <;> rfl), by repeat (first | (with_reducible first | exact HB.out | apply below_alloc | apply pw_below_drewN | apply below_drew1 | refine below_set ?_ GE190.out) | exact HB.out)⟩
                      · replace c101 := Bool.eq_false_iff.mpr c101
                        subst c101
                        have H1 : ((layout_List.f 3 0 9 1 t182 t183 t184 t185 t186 t187).bind fun bt197 => ((layout_Check.f bt197.1 bt197.2.1 bt197.2.2.1 bt197.2.2.2.1 bt197.2.2.2.2.1 bt197.2.2.2.2.2).bind fun t205 => (if x3_2 > 0 then ((layout_Open.f t182 t183 t184 t185 t186 t187).bind fun t206 => (if t205 = 0 then (if t206 = true then (some false) else (some true)) else (if t206 = true then (some (t205 == 15)) else (some false)))) else (if t205 = 0 then (some false) else (some (t205 == 15)))))) = some r := by rw [if_neg (show ¬ (false = true) by decide)] at H; exact H
                        clear H
                        have H := H1
                        clear H1
                        replace H := Option.bind_eq_some_iff.mp H
                        obtain ⟨⟨t197, t198, t199, t200, t201, t202⟩, A1020, H⟩ := H
                        replace H : ((layout_Check.f t197 t198 t199 t200 t201 t202).bind fun t205 => (if x3_2 > 0 then ((layout_Open.f t182 t183 t184 t185 t186 t187).bind fun t206 => (if t205 = 0 then (if t206 = true then (some false) else (some true)) else (if t206 = true then (some (t205 == 15)) else (some false)))) else (if t205 = 0 then (some false) else (some (t205 == 15))))) = some r := H
                        have A102 := Aside0.mk A1020
                        clear A1020
                        replace H := Option.bind_eq_some_iff.mp H
                        obtain ⟨t205, A1030, H⟩ := H
                        replace H : (if x3_2 > 0 then ((layout_Open.f t182 t183 t184 t185 t186 t187).bind fun t206 => (if t205 = 0 then (if t206 = true then (some false) else (some true)) else (if t206 = true then (some (t205 == 15)) else (some false)))) else (if t205 = 0 then (some false) else (some (t205 == 15)))) = some r := H
                        have A103 := Aside0.mk A1030
                        clear A1030
                        by_cases c104 : x3_2 > 0
                        · rw [if_pos c104] at H
                          have c104b0 : decide (0 < x3_2) = true := decide_eq_true c104
                          clear c104
                          replace H := Option.bind_eq_some_iff.mp H
                          obtain ⟨t206, A1050, H⟩ := H
                          replace H : (if t205 = 0 then (if t206 = true then (some false) else (some true)) else (if t206 = true then (some (t205 == 15)) else (some false))) = some r := H
                          have A105 := Aside0.mk A1050
                          clear A1050
                          by_cases c106 : t205 = 0
                          · rw [if_pos c106] at H
                            have c106b0 : (t205 == 0) = true := beq_iff_eq.mpr c106
                            have c106b1 : (t205 != 0) = false := bne_eq_false_iff_eq.mpr c106
                            clear c106
                            by_cases c107 : t206 = true
                            · subst c107
                              have H1 : (some false) = some r := by rw [if_pos rfl] at H; exact H
                              clear H
                              have H := H1
                              clear H1
                              obtain rfl := Option.some.inj H
                              have hcz108_0 : wc.cell? ⟨gb190, 0, none⟩ = some (.int .i64 t182) := (blk_cell BK190.out 0).trans rfl
                              have hcz108_1 : wc.cell? ⟨gb190, 1, none⟩ = some (.int .i64 t183) := (blk_cell BK190.out 1).trans rfl
                              have hcz108_2 : wc.cell? ⟨gb190, 2, none⟩ = some (.int .i64 t184) := (blk_cell BK190.out 2).trans rfl
                              have hcz108_3 : wc.cell? ⟨gb190, 3, none⟩ = some (.int .i64 t185) := (blk_cell BK190.out 3).trans rfl
                              have hcz108_4 : wc.cell? ⟨gb190, 4, none⟩ = some (.int .i64 t186) := (blk_cell BK190.out 4).trans rfl
                              have hcz108_5 : wc.cell? ⟨gb190, 5, none⟩ = some (.slice Ao59 t187.length co59) := (blk_cell BK190.out 5).trans rfl
                              have hfz108_0 := blk_frozen BK190.out 0
                              have hfz108_1 := blk_frozen BK190.out 1
                              have hfz108_2 := blk_frozen BK190.out 2
                              have hfz108_3 := blk_frozen BK190.out 3
                              have hfz108_4 := blk_frozen BK190.out 4
                              have hfz108_5 := blk_frozen BK190.out 5
                              go_wp2_with (first | ((with_reducible refine gate_callee (f := 16) rfl ?_); refine goesL_ (some 93) rfl rfl Try.func16 (by kernel_rfl) rfl #[.int .i64 3, .int .i64 0, .int .i64 9, .int .i64 1, .agg #[.int .i64 t182, .int .i64 t183, .int .i64 t184, .int .i64 t185, .int .i64 t186, .slice Ao59 t187.length co59]] rfl (by (try simp only [List.map_toArray, List.map_cons, List.map_nil]); first | done | rfl | (simp only [List.length_drop, List.length_take]; rfl)) ?_; (with_reducible refine (layout_List.calls 3 0 9 1 t182 t183 t184 t185 t186 (fun k_ => k_ ≠ gb190) _ _ t187 t197 t198 t199 t200 t201 t202 _ ?side1 A102.out).mono ?_); (case side1 => exact Kd.N_V (HO_191005.out)); rintro e w109 ⟨v203, rfl, ho0, hb⟩; refine ⟨_, rfl, ?_⟩; have n0_ := Aside0.mk (Kd.N_elder' (by (with_reducible repeat (first | apply Kd.N_alloc | apply Kd.N_drewN | apply Kd.N_drew)); exact HO_191005.out) (Kd.N_base ho0) hb); have n1_ := Aside0.mk (Kd.N_lower (Kd.N_mono (ok' := fun k_ => k_ ≠ gb190) ho0 (fun k_ hk_ => Or.elim hk_ (fun hs_ => hs_) (fun hn_ => (Kd.freshB (g := gb190) (o := .cells #[.int .i64 t182, .int .i64 t183, .int .i64 t184, .int .i64 t185, .int .i64 t186, .slice Ao59 t187.length co59] 27 (0, 0)) (by (with_reducible repeat (first | refine blk_drewN ?_ _ | refine blk_drew ?_ | refine blk_alloc ?_ _)); exact BK190.out) k_ hn_)))) (below_size (by repeat (first | (with_reducible first | exact HB.out | apply below_alloc | apply pw_below_drewN | apply below_drew1 | refine below_set ?_ GE190.out) | exact HB.out)))); have n2_ := Aside0.mk (blk_below (g := gb190) (o := .cells #[.int .i64 t182, .int .i64 t183, .int .i64 t184, .int .i64 t185, .int .i64 t186, .slice Ao59 t187.length co59] 27 (0, 0)) (by (with_reducible repeat (first | refine blk_drewN ?_ _ | refine blk_drew ?_ | refine blk_alloc ?_ _)); exact BK190.out) hb); have n3_ := Aside0.mk (below_step (by repeat (first | (with_reducible first | exact HB.out | apply below_alloc | apply pw_below_drewN | apply below_drew1 | refine below_set ?_ GE190.out) | exact HB.out)) hb); clear HO_191005; clear BK190; clear HB; have HO_191005 := n0_; have HO204 := n1_; have BK190 := n2_; have HB := n3_; clear n0_ n1_ n2_ n3_; (try clear hb); (try clear hb2); (try clear hk); (try clear hi); (try clear ho0); obtain ⟨Ao110, co110, eo110⟩ := Kd.N_slice HO204.out; subst eo110) | ((with_reducible refine gate_callee (f := 14) rfl ?_); refine goesL_ (some 94) rfl rfl Try.func14 (by kernel_rfl) rfl #[.agg #[.int .i64 t197, .int .i64 t198, .int .i64 t199, .int .i64 t200, .int .i64 t201, .slice Ao110 t202.length co110]] rfl (by (try simp only [List.map_toArray, List.map_cons, List.map_nil]); first | done | rfl | (simp only [List.length_drop, List.length_take]; rfl)) ?_; (with_reducible refine (layout_Check.calls t197 t198 t199 t200 t201 _ _ t202 t205 _ ?side1 ?side2 A103.out).mono ?_); (case side1 => repeat (first | exact (Kd.N_reads' HO204.out).2.2 | (with_reducible refine Kd.C_alloc ?_ _) | (with_reducible refine Kd.C_drewN ?_ _) | (with_reducible refine Kd.C_drew ?_))); (case side2 => exact (Kd.N_reads' HO204.out).2.1); rintro e w111 ⟨rfl, hb⟩; refine ⟨_, rfl, ?_⟩; have n0_ := Aside0.mk (Kd.N_below (by (with_reducible repeat (first | apply Kd.N_alloc | apply Kd.N_drewN | apply Kd.N_drew)); exact HO_191005.out) hb); have n1_ := Aside0.mk (Kd.N_below (by (with_reducible repeat (first | apply Kd.N_alloc | apply Kd.N_drewN | apply Kd.N_drew)); exact HO204.out) hb); have n2_ := Aside0.mk (blk_below (g := gb190) (o := .cells #[.int .i64 t182, .int .i64 t183, .int .i64 t184, .int .i64 t185, .int .i64 t186, .slice Ao59 t187.length co59] 27 (0, 0)) (by (with_reducible repeat (first | refine blk_drewN ?_ _ | refine blk_drew ?_ | refine blk_alloc ?_ _)); exact BK190.out) hb); have n3_ := Aside0.mk (below_step (by repeat (first | (with_reducible first | exact HB.out | apply below_alloc | apply pw_below_drewN | apply below_drew1 | refine below_set ?_ GE190.out) | exact HB.out)) hb); clear HO_191005; clear HO204; clear BK190; clear HB; have HO_191005 := n0_; have HO204 := n1_; have BK190 := n2_; have HB := n3_; clear n0_ n1_ n2_ n3_; (try clear hb); (try clear hb2); (try clear hk); (try clear hi); have hcz112_0 : w111.cell? ⟨gb190, 0, none⟩ = some (.int .i64 t182) := (blk_cell BK190.out 0).trans rfl; have hcz112_1 : w111.cell? ⟨gb190, 1, none⟩ = some (.int .i64 t183) := (blk_cell BK190.out 1).trans rfl; have hcz112_2 : w111.cell? ⟨gb190, 2, none⟩ = some (.int .i64 t184) := (blk_cell BK190.out 2).trans rfl; have hcz112_3 : w111.cell? ⟨gb190, 3, none⟩ = some (.int .i64 t185) := (blk_cell BK190.out 3).trans rfl; have hcz112_4 : w111.cell? ⟨gb190, 4, none⟩ = some (.int .i64 t186) := (blk_cell BK190.out 4).trans rfl; have hcz112_5 : w111.cell? ⟨gb190, 5, none⟩ = some (.slice Ao59 t187.length co59) := (blk_cell BK190.out 5).trans rfl; have hfz112_0 := blk_frozen BK190.out 0; have hfz112_1 := blk_frozen BK190.out 1; have hfz112_2 := blk_frozen BK190.out 2; have hfz112_3 := blk_frozen BK190.out 3; have hfz112_4 := blk_frozen BK190.out 4; have hfz112_5 := blk_frozen BK190.out 5) | (go_at_call 23; (with_reducible refine (layout_Open.calls t182 t183 t184 t185 t186 _ _ t187 true _ ?side1 ?side2 A105.out).mono ?_); (case side1 => repeat (first | exact (Kd.N_reads' HO_191005.out).2.2 | (with_reducible refine Kd.C_alloc ?_ _) | (with_reducible refine Kd.C_drewN ?_ _) | (with_reducible refine Kd.C_drew ?_))); (case side2 => exact (Kd.N_reads' HO_191005.out).2.1); rintro e w113 ⟨rfl, hb⟩; have n0_ := Aside0.mk (Kd.N_below (by (with_reducible repeat (first | apply Kd.N_alloc | apply Kd.N_drewN | apply Kd.N_drew)); exact HO_191005.out) hb); have n1_ := Aside0.mk (Kd.N_below (by (with_reducible repeat (first | apply Kd.N_alloc | apply Kd.N_drewN | apply Kd.N_drew)); exact HO204.out) hb); have n2_ := Aside0.mk (blk_below (g := gb190) (o := .cells #[.int .i64 t182, .int .i64 t183, .int .i64 t184, .int .i64 t185, .int .i64 t186, .slice Ao59 t187.length co59] 27 (0, 0)) (by (with_reducible repeat (first | refine blk_drewN ?_ _ | refine blk_drew ?_ | refine blk_alloc ?_ _)); exact BK190.out) hb); have n3_ := Aside0.mk (below_step (by repeat (first | (with_reducible first | exact HB.out | apply below_alloc | apply pw_below_drewN | apply below_drew1 | refine below_set ?_ GE190.out) | exact HB.out)) hb); clear HO_191005; clear HO204; clear BK190; clear HB; have HO_191005 := n0_; have HO204 := n1_; have BK190 := n2_; have HB := n3_; clear n0_ n1_ n2_ n3_; (try clear hb); (try clear hb2); (try clear hk); (try clear hi)))
                              go_ret
                              exact ⟨by first | rfl | (simp [errW_none, errW_some] <;> rfl) | (simp only [← hji2]; first | rfl | (simp [errW_none, errW_some] <;> rfl)) | (simp [*, errW_none, errW_some] <;> rfl), by repeat (first | (with_reducible first | exact HB.out | apply below_alloc | apply pw_below_drewN | apply below_drew1 | refine below_set ?_ GE190.out) | exact HB.out)⟩
                            · replace c107 := Bool.eq_false_iff.mpr c107
                              subst c107
                              have H1 : (some true) = some r := by rw [if_neg (show ¬ (false = true) by decide)] at H; exact H
                              clear H
                              have H := H1
                              clear H1
                              obtain rfl := Option.some.inj H
                              have hcz114_0 : wc.cell? ⟨gb190, 0, none⟩ = some (.int .i64 t182) := (blk_cell BK190.out 0).trans rfl
                              have hcz114_1 : wc.cell? ⟨gb190, 1, none⟩ = some (.int .i64 t183) := (blk_cell BK190.out 1).trans rfl
                              have hcz114_2 : wc.cell? ⟨gb190, 2, none⟩ = some (.int .i64 t184) := (blk_cell BK190.out 2).trans rfl
                              have hcz114_3 : wc.cell? ⟨gb190, 3, none⟩ = some (.int .i64 t185) := (blk_cell BK190.out 3).trans rfl
                              have hcz114_4 : wc.cell? ⟨gb190, 4, none⟩ = some (.int .i64 t186) := (blk_cell BK190.out 4).trans rfl
                              have hcz114_5 : wc.cell? ⟨gb190, 5, none⟩ = some (.slice Ao59 t187.length co59) := (blk_cell BK190.out 5).trans rfl
                              have hfz114_0 := blk_frozen BK190.out 0
                              have hfz114_1 := blk_frozen BK190.out 1
                              have hfz114_2 := blk_frozen BK190.out 2
                              have hfz114_3 := blk_frozen BK190.out 3
                              have hfz114_4 := blk_frozen BK190.out 4
                              have hfz114_5 := blk_frozen BK190.out 5
                              go_wp2_with (first | ((with_reducible refine gate_callee (f := 16) rfl ?_); refine goesL_ (some 93) rfl rfl Try.func16 (by kernel_rfl) rfl #[.int .i64 3, .int .i64 0, .int .i64 9, .int .i64 1, .agg #[.int .i64 t182, .int .i64 t183, .int .i64 t184, .int .i64 t185, .int .i64 t186, .slice Ao59 t187.length co59]] rfl (by (try simp only [List.map_toArray, List.map_cons, List.map_nil]); first | done | rfl | (simp only [List.length_drop, List.length_take]; rfl)) ?_; (with_reducible refine (layout_List.calls 3 0 9 1 t182 t183 t184 t185 t186 (fun k_ => k_ ≠ gb190) _ _ t187 t197 t198 t199 t200 t201 t202 _ ?side1 A102.out).mono ?_); (case side1 => exact Kd.N_V (HO_191005.out)); rintro e w115 ⟨v203, rfl, ho0, hb⟩; refine ⟨_, rfl, ?_⟩; have n0_ := Aside0.mk (Kd.N_elder' (by (with_reducible repeat (first | apply Kd.N_alloc | apply Kd.N_drewN | apply Kd.N_drew)); exact HO_191005.out) (Kd.N_base ho0) hb); have n1_ := Aside0.mk (Kd.N_lower (Kd.N_mono (ok' := fun k_ => k_ ≠ gb190) ho0 (fun k_ hk_ => Or.elim hk_ (fun hs_ => hs_) (fun hn_ => (Kd.freshB (g := gb190) (o := .cells #[.int .i64 t182, .int .i64 t183, .int .i64 t184, .int .i64 t185, .int .i64 t186, .slice Ao59 t187.length co59] 27 (0, 0)) (by (with_reducible repeat (first | refine blk_drewN ?_ _ | refine blk_drew ?_ | refine blk_alloc ?_ _)); exact BK190.out) k_ hn_)))) (below_size (by repeat (first | (with_reducible first | exact HB.out | apply below_alloc | apply pw_below_drewN | apply below_drew1 | refine below_set ?_ GE190.out) | exact HB.out)))); have n2_ := Aside0.mk (blk_below (g := gb190) (o := .cells #[.int .i64 t182, .int .i64 t183, .int .i64 t184, .int .i64 t185, .int .i64 t186, .slice Ao59 t187.length co59] 27 (0, 0)) (by (with_reducible repeat (first | refine blk_drewN ?_ _ | refine blk_drew ?_ | refine blk_alloc ?_ _)); exact BK190.out) hb); have n3_ := Aside0.mk (below_step (by repeat (first | (with_reducible first | exact HB.out | apply below_alloc | apply pw_below_drewN | apply below_drew1 | refine below_set ?_ GE190.out) | exact HB.out)) hb); clear HO_191005; clear BK190; clear HB; have HO_191005 := n0_; have HO204 := n1_; have BK190 := n2_; have HB := n3_; clear n0_ n1_ n2_ n3_; (try clear hb); (try clear hb2); (try clear hk); (try clear hi); (try clear ho0); obtain ⟨Ao116, co116, eo116⟩ := Kd.N_slice HO204.out; subst eo116) | ((with_reducible refine gate_callee (f := 14) rfl ?_); refine goesL_ (some 94) rfl rfl Try.func14 (by kernel_rfl) rfl #[.agg #[.int .i64 t197, .int .i64 t198, .int .i64 t199, .int .i64 t200, .int .i64 t201, .slice Ao116 t202.length co116]] rfl (by (try simp only [List.map_toArray, List.map_cons, List.map_nil]); first | done | rfl | (simp only [List.length_drop, List.length_take]; rfl)) ?_; (with_reducible refine (layout_Check.calls t197 t198 t199 t200 t201 _ _ t202 t205 _ ?side1 ?side2 A103.out).mono ?_); (case side1 => repeat (first | exact (Kd.N_reads' HO204.out).2.2 | (with_reducible refine Kd.C_alloc ?_ _) | (with_reducible refine Kd.C_drewN ?_ _) | (with_reducible refine Kd.C_drew ?_))); (case side2 => exact (Kd.N_reads' HO204.out).2.1); rintro e w117 ⟨rfl, hb⟩; refine ⟨_, rfl, ?_⟩; have n0_ := Aside0.mk (Kd.N_below (by (with_reducible repeat (first | apply Kd.N_alloc | apply Kd.N_drewN | apply Kd.N_drew)); exact HO_191005.out) hb); have n1_ := Aside0.mk (Kd.N_below (by (with_reducible repeat (first | apply Kd.N_alloc | apply Kd.N_drewN | apply Kd.N_drew)); exact HO204.out) hb); have n2_ := Aside0.mk (blk_below (g := gb190) (o := .cells #[.int .i64 t182, .int .i64 t183, .int .i64 t184, .int .i64 t185, .int .i64 t186, .slice Ao59 t187.length co59] 27 (0, 0)) (by (with_reducible repeat (first | refine blk_drewN ?_ _ | refine blk_drew ?_ | refine blk_alloc ?_ _)); exact BK190.out) hb); have n3_ := Aside0.mk (below_step (by repeat (first | (with_reducible first | exact HB.out | apply below_alloc | apply pw_below_drewN | apply below_drew1 | refine below_set ?_ GE190.out) | exact HB.out)) hb); clear HO_191005; clear HO204; clear BK190; clear HB; have HO_191005 := n0_; have HO204 := n1_; have BK190 := n2_; have HB := n3_; clear n0_ n1_ n2_ n3_; (try clear hb); (try clear hb2); (try clear hk); (try clear hi); have hcz118_0 : w117.cell? ⟨gb190, 0, none⟩ = some (.int .i64 t182) := (blk_cell BK190.out 0).trans rfl; have hcz118_1 : w117.cell? ⟨gb190, 1, none⟩ = some (.int .i64 t183) := (blk_cell BK190.out 1).trans rfl; have hcz118_2 : w117.cell? ⟨gb190, 2, none⟩ = some (.int .i64 t184) := (blk_cell BK190.out 2).trans rfl; have hcz118_3 : w117.cell? ⟨gb190, 3, none⟩ = some (.int .i64 t185) := (blk_cell BK190.out 3).trans rfl; have hcz118_4 : w117.cell? ⟨gb190, 4, none⟩ = some (.int .i64 t186) := (blk_cell BK190.out 4).trans rfl; have hcz118_5 : w117.cell? ⟨gb190, 5, none⟩ = some (.slice Ao59 t187.length co59) := (blk_cell BK190.out 5).trans rfl; have hfz118_0 := blk_frozen BK190.out 0; have hfz118_1 := blk_frozen BK190.out 1; have hfz118_2 := blk_frozen BK190.out 2; have hfz118_3 := blk_frozen BK190.out 3; have hfz118_4 := blk_frozen BK190.out 4; have hfz118_5 := blk_frozen BK190.out 5) | (go_at_call 23; (with_reducible refine (layout_Open.calls t182 t183 t184 t185 t186 _ _ t187 false _ ?side1 ?side2 A105.out).mono ?_); (case side1 => repeat (first | exact (Kd.N_reads' HO_191005.out).2.2 | (with_reducible refine Kd.C_alloc ?_ _) | (with_reducible refine Kd.C_drewN ?_ _) | (with_reducible refine Kd.C_drew ?_))); (case side2 => exact (Kd.N_reads' HO_191005.out).2.1); rintro e w119 ⟨rfl, hb⟩; have n0_ := Aside0.mk (Kd.N_below (by (with_reducible repeat (first | apply Kd.N_alloc | apply Kd.N_drewN | apply Kd.N_drew)); exact HO_191005.out) hb); have n1_ := Aside0.mk (Kd.N_below (by (with_reducible repeat (first | apply Kd.N_alloc | apply Kd.N_drewN | apply Kd.N_drew)); exact HO204.out) hb); have n2_ := Aside0.mk (blk_below (g := gb190) (o := .cells #[.int .i64 t182, .int .i64 t183, .int .i64 t184, .int .i64 t185, .int .i64 t186, .slice Ao59 t187.length co59] 27 (0, 0)) (by (with_reducible repeat (first | refine blk_drewN ?_ _ | refine blk_drew ?_ | refine blk_alloc ?_ _)); exact BK190.out) hb); have n3_ := Aside0.mk (below_step (by repeat (first | (with_reducible first | exact HB.out | apply below_alloc | apply pw_below_drewN | apply below_drew1 | refine below_set ?_ GE190.out) | exact HB.out)) hb); clear HO_191005; clear HO204; clear BK190; clear HB; have HO_191005 := n0_; have HO204 := n1_; have BK190 := n2_; have HB := n3_; clear n0_ n1_ n2_ n3_; (try clear hb); (try clear hb2); (try clear hk); (try clear hi)))
                              go_ret
                              exact ⟨by first | rfl | (simp [errW_none, errW_some] <;> rfl) | (simp only [← hji2]; first | rfl | (simp [errW_none, errW_some] <;> rfl)) | (simp [*, errW_none, errW_some] <;> rfl), by repeat (first | (with_reducible first | exact HB.out | apply below_alloc | apply pw_below_drewN | apply below_drew1 | refine below_set ?_ GE190.out) | exact HB.out)⟩
                          · rw [if_neg c106] at H
                            have c106b0 : (t205 == 0) = false := beq_eq_false_iff_ne.mpr c106
                            have c106b1 : (t205 != 0) = true := bne_iff_ne.mpr c106
                            by_cases c120 : t206 = true
                            · subst c120
                              have H1 : (some (t205 == 15)) = some r := by rw [if_pos rfl] at H; exact H
                              clear H
                              have H := H1
                              clear H1
                              obtain rfl := Option.some.inj H
                              have hcz121_0 : wc.cell? ⟨gb190, 0, none⟩ = some (.int .i64 t182) := (blk_cell BK190.out 0).trans rfl
                              have hcz121_1 : wc.cell? ⟨gb190, 1, none⟩ = some (.int .i64 t183) := (blk_cell BK190.out 1).trans rfl
                              have hcz121_2 : wc.cell? ⟨gb190, 2, none⟩ = some (.int .i64 t184) := (blk_cell BK190.out 2).trans rfl
                              have hcz121_3 : wc.cell? ⟨gb190, 3, none⟩ = some (.int .i64 t185) := (blk_cell BK190.out 3).trans rfl
                              have hcz121_4 : wc.cell? ⟨gb190, 4, none⟩ = some (.int .i64 t186) := (blk_cell BK190.out 4).trans rfl
                              have hcz121_5 : wc.cell? ⟨gb190, 5, none⟩ = some (.slice Ao59 t187.length co59) := (blk_cell BK190.out 5).trans rfl
                              have hfz121_0 := blk_frozen BK190.out 0
                              have hfz121_1 := blk_frozen BK190.out 1
                              have hfz121_2 := blk_frozen BK190.out 2
                              have hfz121_3 := blk_frozen BK190.out 3
                              have hfz121_4 := blk_frozen BK190.out 4
                              have hfz121_5 := blk_frozen BK190.out 5
                              go_wp2_with (first | ((with_reducible refine gate_callee (f := 16) rfl ?_); refine goesL_ (some 93) rfl rfl Try.func16 (by kernel_rfl) rfl #[.int .i64 3, .int .i64 0, .int .i64 9, .int .i64 1, .agg #[.int .i64 t182, .int .i64 t183, .int .i64 t184, .int .i64 t185, .int .i64 t186, .slice Ao59 t187.length co59]] rfl (by (try simp only [List.map_toArray, List.map_cons, List.map_nil]); first | done | rfl | (simp only [List.length_drop, List.length_take]; rfl)) ?_; (with_reducible refine (layout_List.calls 3 0 9 1 t182 t183 t184 t185 t186 (fun k_ => k_ ≠ gb190) _ _ t187 t197 t198 t199 t200 t201 t202 _ ?side1 A102.out).mono ?_); (case side1 => exact Kd.N_V (HO_191005.out)); rintro e w122 ⟨v203, rfl, ho0, hb⟩; refine ⟨_, rfl, ?_⟩; have n0_ := Aside0.mk (Kd.N_elder' (by (with_reducible repeat (first | apply Kd.N_alloc | apply Kd.N_drewN | apply Kd.N_drew)); exact HO_191005.out) (Kd.N_base ho0) hb); have n1_ := Aside0.mk (Kd.N_lower (Kd.N_mono (ok' := fun k_ => k_ ≠ gb190) ho0 (fun k_ hk_ => Or.elim hk_ (fun hs_ => hs_) (fun hn_ => (Kd.freshB (g := gb190) (o := .cells #[.int .i64 t182, .int .i64 t183, .int .i64 t184, .int .i64 t185, .int .i64 t186, .slice Ao59 t187.length co59] 27 (0, 0)) (by (with_reducible repeat (first | refine blk_drewN ?_ _ | refine blk_drew ?_ | refine blk_alloc ?_ _)); exact BK190.out) k_ hn_)))) (below_size (by repeat (first | (with_reducible first | exact HB.out | apply below_alloc | apply pw_below_drewN | apply below_drew1 | refine below_set ?_ GE190.out) | exact HB.out)))); have n2_ := Aside0.mk (blk_below (g := gb190) (o := .cells #[.int .i64 t182, .int .i64 t183, .int .i64 t184, .int .i64 t185, .int .i64 t186, .slice Ao59 t187.length co59] 27 (0, 0)) (by (with_reducible repeat (first | refine blk_drewN ?_ _ | refine blk_drew ?_ | refine blk_alloc ?_ _)); exact BK190.out) hb); have n3_ := Aside0.mk (below_step (by repeat (first | (with_reducible first | exact HB.out | apply below_alloc | apply pw_below_drewN | apply below_drew1 | refine below_set ?_ GE190.out) | exact HB.out)) hb); clear HO_191005; clear BK190; clear HB; have HO_191005 := n0_; have HO204 := n1_; have BK190 := n2_; have HB := n3_; clear n0_ n1_ n2_ n3_; (try clear hb); (try clear hb2); (try clear hk); (try clear hi); (try clear ho0); obtain ⟨Ao123, co123, eo123⟩ := Kd.N_slice HO204.out; subst eo123) | ((with_reducible refine gate_callee (f := 14) rfl ?_); refine goesL_ (some 94) rfl rfl Try.func14 (by kernel_rfl) rfl #[.agg #[.int .i64 t197, .int .i64 t198, .int .i64 t199, .int .i64 t200, .int .i64 t201, .slice Ao123 t202.length co123]] rfl (by (try simp only [List.map_toArray, List.map_cons, List.map_nil]); first | done | rfl | (simp only [List.length_drop, List.length_take]; rfl)) ?_; (with_reducible refine (layout_Check.calls t197 t198 t199 t200 t201 _ _ t202 t205 _ ?side1 ?side2 A103.out).mono ?_); (case side1 => repeat (first | exact (Kd.N_reads' HO204.out).2.2 | (with_reducible refine Kd.C_alloc ?_ _) | (with_reducible refine Kd.C_drewN ?_ _) | (with_reducible refine Kd.C_drew ?_))); (case side2 => exact (Kd.N_reads' HO204.out).2.1); rintro e w124 ⟨rfl, hb⟩; refine ⟨_, rfl, ?_⟩; have n0_ := Aside0.mk (Kd.N_below (by (with_reducible repeat (first | apply Kd.N_alloc | apply Kd.N_drewN | apply Kd.N_drew)); exact HO_191005.out) hb); have n1_ := Aside0.mk (Kd.N_below (by (with_reducible repeat (first | apply Kd.N_alloc | apply Kd.N_drewN | apply Kd.N_drew)); exact HO204.out) hb); have n2_ := Aside0.mk (blk_below (g := gb190) (o := .cells #[.int .i64 t182, .int .i64 t183, .int .i64 t184, .int .i64 t185, .int .i64 t186, .slice Ao59 t187.length co59] 27 (0, 0)) (by (with_reducible repeat (first | refine blk_drewN ?_ _ | refine blk_drew ?_ | refine blk_alloc ?_ _)); exact BK190.out) hb); have n3_ := Aside0.mk (below_step (by repeat (first | (with_reducible first | exact HB.out | apply below_alloc | apply pw_below_drewN | apply below_drew1 | refine below_set ?_ GE190.out) | exact HB.out)) hb); clear HO_191005; clear HO204; clear BK190; clear HB; have HO_191005 := n0_; have HO204 := n1_; have BK190 := n2_; have HB := n3_; clear n0_ n1_ n2_ n3_; (try clear hb); (try clear hb2); (try clear hk); (try clear hi); have hcz125_0 : w124.cell? ⟨gb190, 0, none⟩ = some (.int .i64 t182) := (blk_cell BK190.out 0).trans rfl; have hcz125_1 : w124.cell? ⟨gb190, 1, none⟩ = some (.int .i64 t183) := (blk_cell BK190.out 1).trans rfl; have hcz125_2 : w124.cell? ⟨gb190, 2, none⟩ = some (.int .i64 t184) := (blk_cell BK190.out 2).trans rfl; have hcz125_3 : w124.cell? ⟨gb190, 3, none⟩ = some (.int .i64 t185) := (blk_cell BK190.out 3).trans rfl; have hcz125_4 : w124.cell? ⟨gb190, 4, none⟩ = some (.int .i64 t186) := (blk_cell BK190.out 4).trans rfl; have hcz125_5 : w124.cell? ⟨gb190, 5, none⟩ = some (.slice Ao59 t187.length co59) := (blk_cell BK190.out 5).trans rfl; have hfz125_0 := blk_frozen BK190.out 0; have hfz125_1 := blk_frozen BK190.out 1; have hfz125_2 := blk_frozen BK190.out 2; have hfz125_3 := blk_frozen BK190.out 3; have hfz125_4 := blk_frozen BK190.out 4; have hfz125_5 := blk_frozen BK190.out 5) | (go_at_call 23; (with_reducible refine (layout_Open.calls t182 t183 t184 t185 t186 _ _ t187 true _ ?side1 ?side2 A105.out).mono ?_); (case side1 => repeat (first | exact (Kd.N_reads' HO_191005.out).2.2 | (with_reducible refine Kd.C_alloc ?_ _) | (with_reducible refine Kd.C_drewN ?_ _) | (with_reducible refine Kd.C_drew ?_))); (case side2 => exact (Kd.N_reads' HO_191005.out).2.1); rintro e w126 ⟨rfl, hb⟩; have n0_ := Aside0.mk (Kd.N_below (by (with_reducible repeat (first | apply Kd.N_alloc | apply Kd.N_drewN | apply Kd.N_drew)); exact HO_191005.out) hb); have n1_ := Aside0.mk (Kd.N_below (by (with_reducible repeat (first | apply Kd.N_alloc | apply Kd.N_drewN | apply Kd.N_drew)); exact HO204.out) hb); have n2_ := Aside0.mk (blk_below (g := gb190) (o := .cells #[.int .i64 t182, .int .i64 t183, .int .i64 t184, .int .i64 t185, .int .i64 t186, .slice Ao59 t187.length co59] 27 (0, 0)) (by (with_reducible repeat (first | refine blk_drewN ?_ _ | refine blk_drew ?_ | refine blk_alloc ?_ _)); exact BK190.out) hb); have n3_ := Aside0.mk (below_step (by repeat (first | (with_reducible first | exact HB.out | apply below_alloc | apply pw_below_drewN | apply below_drew1 | refine below_set ?_ GE190.out) | exact HB.out)) hb); clear HO_191005; clear HO204; clear BK190; clear HB; have HO_191005 := n0_; have HO204 := n1_; have BK190 := n2_; have HB := n3_; clear n0_ n1_ n2_ n3_; (try clear hb); (try clear hb2); (try clear hk); (try clear hi)))
                              go_ret
                              exact ⟨by first | rfl | (simp [errW_none, errW_some] <;> rfl) | (simp only [← hji2]; first | rfl | (simp [errW_none, errW_some] <;> rfl)) | (simp [*, errW_none, errW_some] <;> rfl), by repeat (first | (with_reducible first | exact HB.out | apply below_alloc | apply pw_below_drewN | apply below_drew1 | refine below_set ?_ GE190.out) | exact HB.out)⟩
                            · replace c120 := Bool.eq_false_iff.mpr c120
                              subst c120
                              have H1 : (some false) = some r := by rw [if_neg (show ¬ (false = true) by decide)] at H; exact H
                              clear H
                              have H := H1
                              clear H1
                              obtain rfl := Option.some.inj H
                              have hcz127_0 : wc.cell? ⟨gb190, 0, none⟩ = some (.int .i64 t182) := (blk_cell BK190.out 0).trans rfl
                              have hcz127_1 : wc.cell? ⟨gb190, 1, none⟩ = some (.int .i64 t183) := (blk_cell BK190.out 1).trans rfl
                              have hcz127_2 : wc.cell? ⟨gb190, 2, none⟩ = some (.int .i64 t184) := (blk_cell BK190.out 2).trans rfl
                              have hcz127_3 : wc.cell? ⟨gb190, 3, none⟩ = some (.int .i64 t185) := (blk_cell BK190.out 3).trans rfl
                              have hcz127_4 : wc.cell? ⟨gb190, 4, none⟩ = some (.int .i64 t186) := (blk_cell BK190.out 4).trans rfl
                              have hcz127_5 : wc.cell? ⟨gb190, 5, none⟩ = some (.slice Ao59 t187.length co59) := (blk_cell BK190.out 5).trans rfl
                              have hfz127_0 := blk_frozen BK190.out 0
                              have hfz127_1 := blk_frozen BK190.out 1
                              have hfz127_2 := blk_frozen BK190.out 2
                              have hfz127_3 := blk_frozen BK190.out 3
                              have hfz127_4 := blk_frozen BK190.out 4
                              have hfz127_5 := blk_frozen BK190.out 5
                              go_wp2_with (first | ((with_reducible refine gate_callee (f := 16) rfl ?_); refine goesL_ (some 93) rfl rfl Try.func16 (by kernel_rfl) rfl #[.int .i64 3, .int .i64 0, .int .i64 9, .int .i64 1, .agg #[.int .i64 t182, .int .i64 t183, .int .i64 t184, .int .i64 t185, .int .i64 t186, .slice Ao59 t187.length co59]] rfl (by (try simp only [List.map_toArray, List.map_cons, List.map_nil]); first | done | rfl | (simp only [List.length_drop, List.length_take]; rfl)) ?_; (with_reducible refine (layout_List.calls 3 0 9 1 t182 t183 t184 t185 t186 (fun k_ => k_ ≠ gb190) _ _ t187 t197 t198 t199 t200 t201 t202 _ ?side1 A102.out).mono ?_); (case side1 => exact Kd.N_V (HO_191005.out)); rintro e w128 ⟨v203, rfl, ho0, hb⟩; refine ⟨_, rfl, ?_⟩; have n0_ := Aside0.mk (Kd.N_elder' (by (with_reducible repeat (first | apply Kd.N_alloc | apply Kd.N_drewN | apply Kd.N_drew)); exact HO_191005.out) (Kd.N_base ho0) hb); have n1_ := Aside0.mk (Kd.N_lower (Kd.N_mono (ok' := fun k_ => k_ ≠ gb190) ho0 (fun k_ hk_ => Or.elim hk_ (fun hs_ => hs_) (fun hn_ => (Kd.freshB (g := gb190) (o := .cells #[.int .i64 t182, .int .i64 t183, .int .i64 t184, .int .i64 t185, .int .i64 t186, .slice Ao59 t187.length co59] 27 (0, 0)) (by (with_reducible repeat (first | refine blk_drewN ?_ _ | refine blk_drew ?_ | refine blk_alloc ?_ _)); exact BK190.out) k_ hn_)))) (below_size (by repeat (first | (with_reducible first | exact HB.out | apply below_alloc | apply pw_below_drewN | apply below_drew1 | refine below_set ?_ GE190.out) | exact HB.out)))); have n2_ := Aside0.mk (blk_below (g := gb190) (o := .cells #[.int .i64 t182, .int .i64 t183, .int .i64 t184, .int .i64 t185, .int .i64 t186, .slice Ao59 t187.length co59] 27 (0, 0)) (by (with_reducible repeat (first | refine blk_drewN ?_ _ | refine blk_drew ?_ | refine blk_alloc ?_ _)); exact BK190.out) hb); have n3_ := Aside0.mk (below_step (by repeat (first | (with_reducible first | exact HB.out | apply below_alloc | apply pw_below_drewN | apply below_drew1 | refine below_set ?_ GE190.out) | exact HB.out)) hb); clear HO_191005; clear BK190; clear HB; have HO_191005 := n0_; have HO204 := n1_; have BK190 := n2_; have HB := n3_; clear n0_ n1_ n2_ n3_; (try clear hb); (try clear hb2); (try clear hk); (try clear hi); (try clear ho0); obtain ⟨Ao129, co129, eo129⟩ := Kd.N_slice HO204.out; subst eo129) | ((with_reducible refine gate_callee (f := 14) rfl ?_); refine goesL_ (some 94) rfl rfl Try.func14 (by kernel_rfl) rfl #[.agg #[.int .i64 t197, .int .i64 t198, .int .i64 t199, .int .i64 t200, .int .i64 t201, .slice Ao129 t202.length co129]] rfl (by (try simp only [List.map_toArray, List.map_cons, List.map_nil]); first | done | rfl | (simp only [List.length_drop, List.length_take]; rfl)) ?_; (with_reducible refine (layout_Check.calls t197 t198 t199 t200 t201 _ _ t202 t205 _ ?side1 ?side2 A103.out).mono ?_); (case side1 => repeat (first | exact (Kd.N_reads' HO204.out).2.2 | (with_reducible refine Kd.C_alloc ?_ _) | (with_reducible refine Kd.C_drewN ?_ _) | (with_reducible refine Kd.C_drew ?_))); (case side2 => exact (Kd.N_reads' HO204.out).2.1); rintro e w130 ⟨rfl, hb⟩; refine ⟨_, rfl, ?_⟩; have n0_ := Aside0.mk (Kd.N_below (by (with_reducible repeat (first | apply Kd.N_alloc | apply Kd.N_drewN | apply Kd.N_drew)); exact HO_191005.out) hb); have n1_ := Aside0.mk (Kd.N_below (by (with_reducible repeat (first | apply Kd.N_alloc | apply Kd.N_drewN | apply Kd.N_drew)); exact HO204.out) hb); have n2_ := Aside0.mk (blk_below (g := gb190) (o := .cells #[.int .i64 t182, .int .i64 t183, .int .i64 t184, .int .i64 t185, .int .i64 t186, .slice Ao59 t187.length co59] 27 (0, 0)) (by (with_reducible repeat (first | refine blk_drewN ?_ _ | refine blk_drew ?_ | refine blk_alloc ?_ _)); exact BK190.out) hb); have n3_ := Aside0.mk (below_step (by repeat (first | (with_reducible first | exact HB.out | apply below_alloc | apply pw_below_drewN | apply below_drew1 | refine below_set ?_ GE190.out) | exact HB.out)) hb); clear HO_191005; clear HO204; clear BK190; clear HB; have HO_191005 := n0_; have HO204 := n1_; have BK190 := n2_; have HB := n3_; clear n0_ n1_ n2_ n3_; (try clear hb); (try clear hb2); (try clear hk); (try clear hi); have hcz131_0 : w130.cell? ⟨gb190, 0, none⟩ = some (.int .i64 t182) := (blk_cell BK190.out 0).trans rfl; have hcz131_1 : w130.cell? ⟨gb190, 1, none⟩ = some (.int .i64 t183) := (blk_cell BK190.out 1).trans rfl; have hcz131_2 : w130.cell? ⟨gb190, 2, none⟩ = some (.int .i64 t184) := (blk_cell BK190.out 2).trans rfl; have hcz131_3 : w130.cell? ⟨gb190, 3, none⟩ = some (.int .i64 t185) := (blk_cell BK190.out 3).trans rfl; have hcz131_4 : w130.cell? ⟨gb190, 4, none⟩ = some (.int .i64 t186) := (blk_cell BK190.out 4).trans rfl; have hcz131_5 : w130.cell? ⟨gb190, 5, none⟩ = some (.slice Ao59 t187.length co59) := (blk_cell BK190.out 5).trans rfl; have hfz131_0 := blk_frozen BK190.out 0; have hfz131_1 := blk_frozen BK190.out 1; have hfz131_2 := blk_frozen BK190.out 2; have hfz131_3 := blk_frozen BK190.out 3; have hfz131_4 := blk_frozen BK190.out 4; have hfz131_5 := blk_frozen BK190.out 5) | (go_at_call 23; (with_reducible refine (layout_Open.calls t182 t183 t184 t185 t186 _ _ t187 false _ ?side1 ?side2 A105.out).mono ?_); (case side1 => repeat (first | exact (Kd.N_reads' HO_191005.out).2.2 | (with_reducible refine Kd.C_alloc ?_ _) | (with_reducible refine Kd.C_drewN ?_ _) | (with_reducible refine Kd.C_drew ?_))); (case side2 => exact (Kd.N_reads' HO_191005.out).2.1); rintro e w132 ⟨rfl, hb⟩; have n0_ := Aside0.mk (Kd.N_below (by (with_reducible repeat (first | apply Kd.N_alloc | apply Kd.N_drewN | apply Kd.N_drew)); exact HO_191005.out) hb); have n1_ := Aside0.mk (Kd.N_below (by (with_reducible repeat (first | apply Kd.N_alloc | apply Kd.N_drewN | apply Kd.N_drew)); exact HO204.out) hb); have n2_ := Aside0.mk (blk_below (g := gb190) (o := .cells #[.int .i64 t182, .int .i64 t183, .int .i64 t184, .int .i64 t185, .int .i64 t186, .slice Ao59 t187.length co59] 27 (0, 0)) (by (with_reducible repeat (first | refine blk_drewN ?_ _ | refine blk_drew ?_ | refine blk_alloc ?_ _)); exact BK190.out) hb); have n3_ := Aside0.mk (below_step (by repeat (first | (with_reducible first | exact HB.out | apply below_alloc | apply pw_below_drewN | apply below_drew1 | refine below_set ?_ GE190.out) | exact HB.out)) hb); clear HO_191005; clear HO204; clear BK190; clear HB; have HO_191005 := n0_; have HO204 := n1_; have BK190 := n2_; have HB := n3_; clear n0_ n1_ n2_ n3_; (try clear hb); (try clear hb2); (try clear hk); (try clear hi)))
                              go_ret
                              exact ⟨by first | rfl | (simp [errW_none, errW_some] <;> rfl) | (simp only [← hji2]; first | rfl | (simp [errW_none, errW_some] <;> rfl)) | (simp [*, errW_none, errW_some] <;> rfl), by repeat (first | (with_reducible first | exact HB.out | apply below_alloc | apply pw_below_drewN | apply below_drew1 | refine below_set ?_ GE190.out) | exact HB.out)⟩
                        · rw [if_neg c104] at H
                          have c104b0 : decide (0 < x3_2) = false := decide_eq_false c104
                          clear c104
                          by_cases c133 : t205 = 0
                          · rw [if_pos c133] at H
                            have c133b0 : (t205 == 0) = true := beq_iff_eq.mpr c133
                            have c133b1 : (t205 != 0) = false := bne_eq_false_iff_eq.mpr c133
                            clear c133
                            obtain rfl := Option.some.inj H
                            have hcz134_0 : wc.cell? ⟨gb190, 0, none⟩ = some (.int .i64 t182) := (blk_cell BK190.out 0).trans rfl
                            have hcz134_1 : wc.cell? ⟨gb190, 1, none⟩ = some (.int .i64 t183) := (blk_cell BK190.out 1).trans rfl
                            have hcz134_2 : wc.cell? ⟨gb190, 2, none⟩ = some (.int .i64 t184) := (blk_cell BK190.out 2).trans rfl
                            have hcz134_3 : wc.cell? ⟨gb190, 3, none⟩ = some (.int .i64 t185) := (blk_cell BK190.out 3).trans rfl
                            have hcz134_4 : wc.cell? ⟨gb190, 4, none⟩ = some (.int .i64 t186) := (blk_cell BK190.out 4).trans rfl
                            have hcz134_5 : wc.cell? ⟨gb190, 5, none⟩ = some (.slice Ao59 t187.length co59) := (blk_cell BK190.out 5).trans rfl
                            have hfz134_0 := blk_frozen BK190.out 0
                            have hfz134_1 := blk_frozen BK190.out 1
                            have hfz134_2 := blk_frozen BK190.out 2
                            have hfz134_3 := blk_frozen BK190.out 3
                            have hfz134_4 := blk_frozen BK190.out 4
                            have hfz134_5 := blk_frozen BK190.out 5
                            go_wp2_with (first | ((with_reducible refine gate_callee (f := 16) rfl ?_); refine goesL_ (some 93) rfl rfl Try.func16 (by kernel_rfl) rfl #[.int .i64 3, .int .i64 0, .int .i64 9, .int .i64 1, .agg #[.int .i64 t182, .int .i64 t183, .int .i64 t184, .int .i64 t185, .int .i64 t186, .slice Ao59 t187.length co59]] rfl (by (try simp only [List.map_toArray, List.map_cons, List.map_nil]); first | done | rfl | (simp only [List.length_drop, List.length_take]; rfl)) ?_; (with_reducible refine (layout_List.calls 3 0 9 1 t182 t183 t184 t185 t186 (fun k_ => k_ ≠ gb190) _ _ t187 t197 t198 t199 t200 t201 t202 _ ?side1 A102.out).mono ?_); (case side1 => exact Kd.N_V (HO_191005.out)); rintro e w135 ⟨v203, rfl, ho0, hb⟩; refine ⟨_, rfl, ?_⟩; have n0_ := Aside0.mk (Kd.N_elder' (by (with_reducible repeat (first | apply Kd.N_alloc | apply Kd.N_drewN | apply Kd.N_drew)); exact HO_191005.out) (Kd.N_base ho0) hb); have n1_ := Aside0.mk (Kd.N_lower (Kd.N_mono (ok' := fun k_ => k_ ≠ gb190) ho0 (fun k_ hk_ => Or.elim hk_ (fun hs_ => hs_) (fun hn_ => (Kd.freshB (g := gb190) (o := .cells #[.int .i64 t182, .int .i64 t183, .int .i64 t184, .int .i64 t185, .int .i64 t186, .slice Ao59 t187.length co59] 27 (0, 0)) (by (with_reducible repeat (first | refine blk_drewN ?_ _ | refine blk_drew ?_ | refine blk_alloc ?_ _)); exact BK190.out) k_ hn_)))) (below_size (by repeat (first | (with_reducible first | exact HB.out | apply below_alloc | apply pw_below_drewN | apply below_drew1 | refine below_set ?_ GE190.out) | exact HB.out)))); have n2_ := Aside0.mk (blk_below (g := gb190) (o := .cells #[.int .i64 t182, .int .i64 t183, .int .i64 t184, .int .i64 t185, .int .i64 t186, .slice Ao59 t187.length co59] 27 (0, 0)) (by (with_reducible repeat (first | refine blk_drewN ?_ _ | refine blk_drew ?_ | refine blk_alloc ?_ _)); exact BK190.out) hb); have n3_ := Aside0.mk (below_step (by repeat (first | (with_reducible first | exact HB.out | apply below_alloc | apply pw_below_drewN | apply below_drew1 | refine below_set ?_ GE190.out) | exact HB.out)) hb); clear HO_191005; clear BK190; clear HB; have HO_191005 := n0_; have HO204 := n1_; have BK190 := n2_; have HB := n3_; clear n0_ n1_ n2_ n3_; (try clear hb); (try clear hb2); (try clear hk); (try clear hi); (try clear ho0); obtain ⟨Ao136, co136, eo136⟩ := Kd.N_slice HO204.out; subst eo136) | ((with_reducible refine gate_callee (f := 14) rfl ?_); refine goesL_ (some 94) rfl rfl Try.func14 (by kernel_rfl) rfl #[.agg #[.int .i64 t197, .int .i64 t198, .int .i64 t199, .int .i64 t200, .int .i64 t201, .slice Ao136 t202.length co136]] rfl (by (try simp only [List.map_toArray, List.map_cons, List.map_nil]); first | done | rfl | (simp only [List.length_drop, List.length_take]; rfl)) ?_; (with_reducible refine (layout_Check.calls t197 t198 t199 t200 t201 _ _ t202 t205 _ ?side1 ?side2 A103.out).mono ?_); (case side1 => repeat (first | exact (Kd.N_reads' HO204.out).2.2 | (with_reducible refine Kd.C_alloc ?_ _) | (with_reducible refine Kd.C_drewN ?_ _) | (with_reducible refine Kd.C_drew ?_))); (case side2 => exact (Kd.N_reads' HO204.out).2.1); rintro e w137 ⟨rfl, hb⟩; refine ⟨_, rfl, ?_⟩; have n0_ := Aside0.mk (Kd.N_below (by (with_reducible repeat (first | apply Kd.N_alloc | apply Kd.N_drewN | apply Kd.N_drew)); exact HO_191005.out) hb); have n1_ := Aside0.mk (Kd.N_below (by (with_reducible repeat (first | apply Kd.N_alloc | apply Kd.N_drewN | apply Kd.N_drew)); exact HO204.out) hb); have n2_ := Aside0.mk (blk_below (g := gb190) (o := .cells #[.int .i64 t182, .int .i64 t183, .int .i64 t184, .int .i64 t185, .int .i64 t186, .slice Ao59 t187.length co59] 27 (0, 0)) (by (with_reducible repeat (first | refine blk_drewN ?_ _ | refine blk_drew ?_ | refine blk_alloc ?_ _)); exact BK190.out) hb); have n3_ := Aside0.mk (below_step (by repeat (first | (with_reducible first | exact HB.out | apply below_alloc | apply pw_below_drewN | apply below_drew1 | refine below_set ?_ GE190.out) | exact HB.out)) hb); clear HO_191005; clear HO204; clear BK190; clear HB; have HO_191005 := n0_; have HO204 := n1_; have BK190 := n2_; have HB := n3_; clear n0_ n1_ n2_ n3_; (try clear hb); (try clear hb2); (try clear hk); (try clear hi)))
                            go_ret
                            exact ⟨by first | rfl | (simp [errW_none, errW_some] <;> rfl) | (simp only [← hji2]; first | rfl | (simp [errW_none, errW_some] <;> rfl)) | (simp [*, errW_none, errW_some] <;> rfl), by repeat (first | (with_reducible first | exact HB.out | apply below_alloc | apply pw_below_drewN | apply below_drew1 | refine below_set ?_ GE190.out) | exact HB.out)⟩
                          · rw [if_neg c133] at H
                            have c133b0 : (t205 == 0) = false := beq_eq_false_iff_ne.mpr c133
                            have c133b1 : (t205 != 0) = true := bne_iff_ne.mpr c133
                            obtain rfl := Option.some.inj H
                            have hcz138_0 : wc.cell? ⟨gb190, 0, none⟩ = some (.int .i64 t182) := (blk_cell BK190.out 0).trans rfl
                            have hcz138_1 : wc.cell? ⟨gb190, 1, none⟩ = some (.int .i64 t183) := (blk_cell BK190.out 1).trans rfl
                            have hcz138_2 : wc.cell? ⟨gb190, 2, none⟩ = some (.int .i64 t184) := (blk_cell BK190.out 2).trans rfl
                            have hcz138_3 : wc.cell? ⟨gb190, 3, none⟩ = some (.int .i64 t185) := (blk_cell BK190.out 3).trans rfl
                            have hcz138_4 : wc.cell? ⟨gb190, 4, none⟩ = some (.int .i64 t186) := (blk_cell BK190.out 4).trans rfl
                            have hcz138_5 : wc.cell? ⟨gb190, 5, none⟩ = some (.slice Ao59 t187.length co59) := (blk_cell BK190.out 5).trans rfl
                            have hfz138_0 := blk_frozen BK190.out 0
                            have hfz138_1 := blk_frozen BK190.out 1
                            have hfz138_2 := blk_frozen BK190.out 2
                            have hfz138_3 := blk_frozen BK190.out 3
                            have hfz138_4 := blk_frozen BK190.out 4
                            have hfz138_5 := blk_frozen BK190.out 5
                            go_wp2_with (first | ((with_reducible refine gate_callee (f := 16) rfl ?_); refine goesL_ (some 93) rfl rfl Try.func16 (by kernel_rfl) rfl #[.int .i64 3, .int .i64 0, .int .i64 9, .int .i64 1, .agg #[.int .i64 t182, .int .i64 t183, .int .i64 t184, .int .i64 t185, .int .i64 t186, .slice Ao59 t187.length co59]] rfl (by (try simp only [List.map_toArray, List.map_cons, List.map_nil]); first | done | rfl | (simp only [List.length_drop, List.length_take]; rfl)) ?_; (with_reducible refine (layout_List.calls 3 0 9 1 t182 t183 t184 t185 t186 (fun k_ => k_ ≠ gb190) _ _ t187 t197 t198 t199 t200 t201 t202 _ ?side1 A102.out).mono ?_); (case side1 => exact Kd.N_V (HO_191005.out)); rintro e w139 ⟨v203, rfl, ho0, hb⟩; refine ⟨_, rfl, ?_⟩; have n0_ := Aside0.mk (Kd.N_elder' (by (with_reducible repeat (first | apply Kd.N_alloc | apply Kd.N_drewN | apply Kd.N_drew)); exact HO_191005.out) (Kd.N_base ho0) hb); have n1_ := Aside0.mk (Kd.N_lower (Kd.N_mono (ok' := fun k_ => k_ ≠ gb190) ho0 (fun k_ hk_ => Or.elim hk_ (fun hs_ => hs_) (fun hn_ => (Kd.freshB (g := gb190) (o := .cells #[.int .i64 t182, .int .i64 t183, .int .i64 t184, .int .i64 t185, .int .i64 t186, .slice Ao59 t187.length co59] 27 (0, 0)) (by (with_reducible repeat (first | refine blk_drewN ?_ _ | refine blk_drew ?_ | refine blk_alloc ?_ _)); exact BK190.out) k_ hn_)))) (below_size (by repeat (first | (with_reducible first | exact HB.out | apply below_alloc | apply pw_below_drewN | apply below_drew1 | refine below_set ?_ GE190.out) | exact HB.out)))); have n2_ := Aside0.mk (blk_below (g := gb190) (o := .cells #[.int .i64 t182, .int .i64 t183, .int .i64 t184, .int .i64 t185, .int .i64 t186, .slice Ao59 t187.length co59] 27 (0, 0)) (by (with_reducible repeat (first | refine blk_drewN ?_ _ | refine blk_drew ?_ | refine blk_alloc ?_ _)); exact BK190.out) hb); have n3_ := Aside0.mk (below_step (by repeat (first | (with_reducible first | exact HB.out | apply below_alloc | apply pw_below_drewN | apply below_drew1 | refine below_set ?_ GE190.out) | exact HB.out)) hb); clear HO_191005; clear BK190; clear HB; have HO_191005 := n0_; have HO204 := n1_; have BK190 := n2_; have HB := n3_; clear n0_ n1_ n2_ n3_; (try clear hb); (try clear hb2); (try clear hk); (try clear hi); (try clear ho0); obtain ⟨Ao140, co140, eo140⟩ := Kd.N_slice HO204.out; subst eo140) | ((with_reducible refine gate_callee (f := 14) rfl ?_); refine goesL_ (some 94) rfl rfl Try.func14 (by kernel_rfl) rfl #[.agg #[.int .i64 t197, .int .i64 t198, .int .i64 t199, .int .i64 t200, .int .i64 t201, .slice Ao140 t202.length co140]] rfl (by (try simp only [List.map_toArray, List.map_cons, List.map_nil]); first | done | rfl | (simp only [List.length_drop, List.length_take]; rfl)) ?_; (with_reducible refine (layout_Check.calls t197 t198 t199 t200 t201 _ _ t202 t205 _ ?side1 ?side2 A103.out).mono ?_); (case side1 => repeat (first | exact (Kd.N_reads' HO204.out).2.2 | (with_reducible refine Kd.C_alloc ?_ _) | (with_reducible refine Kd.C_drewN ?_ _) | (with_reducible refine Kd.C_drew ?_))); (case side2 => exact (Kd.N_reads' HO204.out).2.1); rintro e w141 ⟨rfl, hb⟩; refine ⟨_, rfl, ?_⟩; have n0_ := Aside0.mk (Kd.N_below (by (with_reducible repeat (first | apply Kd.N_alloc | apply Kd.N_drewN | apply Kd.N_drew)); exact HO_191005.out) hb); have n1_ := Aside0.mk (Kd.N_below (by (with_reducible repeat (first | apply Kd.N_alloc | apply Kd.N_drewN | apply Kd.N_drew)); exact HO204.out) hb); have n2_ := Aside0.mk (blk_below (g := gb190) (o := .cells #[.int .i64 t182, .int .i64 t183, .int .i64 t184, .int .i64 t185, .int .i64 t186, .slice Ao59 t187.length co59] 27 (0, 0)) (by (with_reducible repeat (first | refine blk_drewN ?_ _ | refine blk_drew ?_ | refine blk_alloc ?_ _)); exact BK190.out) hb); have n3_ := Aside0.mk (below_step (by repeat (first | (with_reducible first | exact HB.out | apply below_alloc | apply pw_below_drewN | apply below_drew1 | refine below_set ?_ GE190.out) | exact HB.out)) hb); clear HO_191005; clear HO204; clear BK190; clear HB; have HO_191005 := n0_; have HO204 := n1_; have BK190 := n2_; have HB := n3_; clear n0_ n1_ n2_ n3_; (try clear hb); (try clear hb2); (try clear hk); (try clear hi)))
                            go_ret
                            exact ⟨by first | rfl | (simp [errW_none, errW_some] <;> rfl) | (simp only [← hji2]; first | rfl | (simp [errW_none, errW_some] <;> rfl)) | (simp [*, errW_none, errW_some] <;> rfl), by repeat (first | (with_reducible first | exact HB.out | apply below_alloc | apply pw_below_drewN | apply below_drew1 | refine below_set ?_ GE190.out) | exact HB.out)⟩
    · rw [if_neg c4] at H
      exact absurd H (by simp)
  · rw [if_neg c3] at H
    exact absurd H (by simp)

end Go.Proofs.Ytfcghajnnllmhaa.QP
