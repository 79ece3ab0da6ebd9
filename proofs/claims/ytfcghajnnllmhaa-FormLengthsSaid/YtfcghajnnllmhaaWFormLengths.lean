/-
  FormLengths: the walk.
-/
import Derived.Test.YtfcghajnnllmhaaF6
import Derived.Test.YtfcghajnnllmhaaOpenA
namespace Go.Proofs.Ytfcghajnnllmhaa
open Go.RowKit

theorem chk_flat (k s lo hi st : Int) : (if deepB 8 (.mk ⟨k, s, lo, hi, st⟩ []) then 14 else checkR (.mk ⟨k, s, lo, hi, st⟩ [])) = ownN k s lo hi st 0 := by
  have hp : partsF (.mk ⟨k, s, lo, hi, st⟩ []) = [] := by
    show (if k = 2 ∨ k = 3 then ([] : List Fm) else []) = []
    split <;> rfl
  have hd : deepB 8 (.mk ⟨k, s, lo, hi, st⟩ []) = false := by rw [deepB, hp]; rfl
  rw [hd, checkR_parts, hp]
  have e : restR k [] = 0 := by rw [restR, checkL]; simp [badF]
  show (if ownN k s lo hi st 0 ≠ 0 then ownN k s lo hi st 0 else restR k []) = _
  rw [e]
  split <;> omega
theorem chk_list1 (s lo hi st : Int) : (if deepB 8 (.mk ⟨2, s, lo, hi, st⟩ [.mk ⟨0, 1, 0, 0, 0⟩ []]) then 14 else checkR (.mk ⟨2, s, lo, hi, st⟩ [.mk ⟨0, 1, 0, 0, 0⟩ []])) = ownN 2 s lo hi st 1 := by
  have hd : deepB 8 (.mk ⟨2, s, lo, hi, st⟩ [.mk ⟨0, 1, 0, 0, 0⟩ []]) = false := rfl
  rw [hd, checkR_mk]
  show (if ownN 2 s lo hi st 1 ≠ 0 then ownN 2 s lo hi st 1 else _) = _
  by_cases h : ownN 2 s lo hi st 1 ≠ 0
  · rw [if_pos h]
  · rw [if_neg h]
    have : ownN 2 s lo hi st 1 = 0 := by omega
    rw [this]
    rfl
/-- Is such a length right? -/
theorem bounds_yes {lo hi M : Int} (h0 : 0 ≤ lo) (h1 : lo ≤ hi) (h2 : hi ≤ M) : boundsR lo hi M = 0 := by rw [boundsR, if_neg (by omega)]
theorem bounds_no {lo hi M : Int} (h : lo < 0 ∨ hi < lo ∨ M < hi) : boundsR lo hi M = 5 := by rw [boundsR, if_pos h]

set_option maxRecDepth 100000 in
set_option maxHeartbeats 12800000 in
theorem flen_bad (w : World) (s : Int) (lo hi st : Int) (hs : i64B s) (hlo : i64B lo) (hhi : i64B hi) (hst : i64B st) (a b c : Int) (ha : ownN 1 s lo hi 1 0 = a) (hb : ownN 2 s lo hi st 1 = b) (hc : boundsR lo hi 16777215 = c)
    (hcase : (a = 3 ∧ b = 3 ∧ decide (s < 1) = true) ∨ (a = 3 ∧ b = 3 ∧ decide (s < 1) = false ∧ decide (3 < s) = true)) :
    Calls Try.prog 3 #[.agg #[.int .i64 s, .int .i64 lo, .int .i64 hi, .int .i64 st]] w fun e w' => e = .returned (.bool true) ∧ Kp (fun _ => False) w w' := by
  have HA := Lib.hid (fun W => (chk_flat 1 s lo hi 1).trans ha ▸ (FmW.flat W 1 s lo hi 1 b1 hs hlo hhi b1).check)
  have HB := Lib.hid (fun W v (h : FmW W v (.mk ⟨2, s, lo, hi, st⟩ [.mk ⟨0, 1, 0, 0, 0⟩ []])) => (chk_list1 s lo hi st).trans hb ▸ h.check)
  have HL := Lib.hid (fun W => list_any s lo hi st (.mk ⟨0, 1, 0, 0, 0⟩ []) none 0 W hs hlo hhi hst (FmW.flat W 0 1 0 0 0 b0 b1 b0 b0 b0))
  have HC := Lib.hid (fun W => (chk_flat 4 0 lo hi 0).trans (show ownN 4 0 lo hi 0 0 = c from hc) ▸ (FmW.flat W 4 0 lo hi 0 (by unfold i64B; omega) b0 hlo hhi b0).check)
  have HK0 := Lib.hid ((Kp.refl (fun _ => False) w).alloc (.cells #[.int .i64 s, .int .i64 lo, .int .i64 hi, .int .i64 st] 22))
  have r3 : ∃ p0 p1 : Bool, decide (0 ≤ lo) = p0 ∧ decide (lo ≤ hi) = p1 := ⟨_, _, rfl, rfl⟩
  obtain ⟨p0, p1, q0, q1⟩ := r3
  clear ha hb hc
  rcases hcase with ⟨rfl, rfl, g1⟩ | ⟨rfl, rfl, g1, g2⟩
  all_goals
    cases p0 <;> cases p1
    all_goals
      go_enter Try.func3, Try.ntmps3
      go_wp2_with fail
      go_quiet (fail)
      go_wp2_with fail
      refine (opaque_any _ _ _ _).mono ?_
      rintro e w1 ⟨rfl, hk1⟩
      have HK1 := Lib.hid (HK0.out.then_ (T := fun _ => False) (((Kp.refl _ _).drewN _).then_ hk1 (fun _ h => h.elim)) (fun _ h => h.elim))
      clear hk1
      go_wp2_with fail
      refine (HA.out _).mono ?_
      rintro e w2 ⟨rfl, hk2⟩
      have HK2 := Lib.hid (HK1.out.then_ hk2 (fun _ h => h.elim))
      clear hk2
      go_wp2_with fail
      refine (number_any _ _).mono ?_
      rintro e w3 ⟨rfl, hk3⟩
      have HK3 := Lib.hid (HK2.out.then_ hk3 (fun _ h => h.elim))
      clear hk3
      go_wp2_with fail
      refine (HL.out _).mono ?_
      rintro e w4 ⟨B, rfl, hf4, hk4⟩
      have HK4 := Lib.hid (HK3.out.then_ hk4 (fun _ h => h.elim))
      have HF4 := Lib.hid hf4
      clear hk4 hf4
      go_wp2_with fail
      refine (HB.out _ _ HF4.out).mono ?_
      rintro e w5 ⟨rfl, hk5⟩
      have HK5 := Lib.hid (HK4.out.then_ hk5 (fun _ h => h.elim))
      clear hk5
      go_wp2_with fail
      refine (rest_any _ _ _).mono ?_
      rintro e w6 ⟨rfl, hk6⟩
      have HK6 := Lib.hid (HK5.out.then_ hk6 (fun _ h => h.elim))
      clear hk6
      go_wp2_with fail
      refine (HC.out _).mono ?_
      rintro e w7 ⟨rfl, hk7⟩
      have HK7 := Lib.hid (HK6.out.then_ hk7 (fun _ h => h.elim))
      clear hk7
      go_wp2_with fail
      refine (alive04 _).mono ?_
      rintro e w8 ⟨rfl, hk8⟩
      have HK8 := Lib.hid (HK7.out.then_ hk8 (fun _ h => h.elim))
      clear hk8
      go_wp2_with fail
      go_ret
      exact ⟨rfl, HK8.out⟩
set_option maxRecDepth 100000 in
set_option maxHeartbeats 12800000 in
theorem flen_1 (w : World) (lo hi st : Int) (hlo : i64B lo) (hhi : i64B hi) (hst : i64B st) (a b c : Int) (ha : ownN 1 1 lo hi 1 0 = a) (hb : ownN 2 1 lo hi st 1 = b) (hc : boundsR lo hi 16777215 = c)
    (hcase : (decide (0 ≤ lo) = false ∧ a = 5 ∧ b = 5 ∧ c = 5) ∨
      (decide (0 ≤ lo) = true ∧ decide (lo ≤ hi) = false ∧ a = 5 ∧ b = 5 ∧ c = 5) ∨
      (decide (0 ≤ lo) = true ∧ decide (lo ≤ hi) = true ∧ decide (hi < 256) = false ∧ decide (hi ≤ 16777215) = true ∧ a = 5 ∧ b = 5 ∧ c = 0) ∨
      (decide (0 ≤ lo) = true ∧ decide (lo ≤ hi) = true ∧ decide (hi < 256) = false ∧ decide (hi ≤ 16777215) = false ∧ a = 5 ∧ b = 5 ∧ c = 5) ∨
      (decide (0 ≤ lo) = true ∧ decide (lo ≤ hi) = true ∧ decide (hi < 256) = true ∧ decide (hi ≤ 16777215) = true ∧ decide (1 ≤ st) = false ∧ a = 0 ∧ b = 5 ∧ c = 0) ∨
      (decide (0 ≤ lo) = true ∧ decide (lo ≤ hi) = true ∧ decide (hi < 256) = true ∧ decide (hi ≤ 16777215) = true ∧ decide (1 ≤ st) = true ∧ decide (st ≤ 65536) = false ∧ a = 0 ∧ b = 5 ∧ c = 0) ∨
      (decide (0 ≤ lo) = true ∧ decide (lo ≤ hi) = true ∧ decide (hi < 256) = true ∧ decide (hi ≤ 16777215) = true ∧ decide (1 ≤ st) = true ∧ decide (st ≤ 65536) = true ∧ a = 0 ∧ b = 0 ∧ c = 0)) :
    Calls Try.prog 3 #[.agg #[.int .i64 1, .int .i64 lo, .int .i64 hi, .int .i64 st]] w fun e w' => e = .returned (.bool true) ∧ Kp (fun _ => False) w w' := by
  have hs : i64B 1 := by unfold i64B; omega
  have HA := Lib.hid (fun W => (chk_flat 1 1 lo hi 1).trans ha ▸ (FmW.flat W 1 1 lo hi 1 b1 hs hlo hhi b1).check)
  have HB := Lib.hid (fun W v (h : FmW W v (.mk ⟨2, 1, lo, hi, st⟩ [.mk ⟨0, 1, 0, 0, 0⟩ []])) => (chk_list1 1 lo hi st).trans hb ▸ h.check)
  have HL := Lib.hid (fun W => list_any 1 lo hi st (.mk ⟨0, 1, 0, 0, 0⟩ []) none 0 W hs hlo hhi hst (FmW.flat W 0 1 0 0 0 b0 b1 b0 b0 b0))
  have HC := Lib.hid (fun W => (chk_flat 4 0 lo hi 0).trans (show ownN 4 0 lo hi 0 0 = c from hc) ▸ (FmW.flat W 4 0 lo hi 0 (by unfold i64B; omega) b0 hlo hhi b0).check)
  have HK0 := Lib.hid ((Kp.refl (fun _ => False) w).alloc (.cells #[.int .i64 1, .int .i64 lo, .int .i64 hi, .int .i64 st] 22))
  clear ha hb hc
  rcases hcase with ⟨q0, rfl, rfl, rfl⟩ | ⟨q0, q1, rfl, rfl, rfl⟩ | ⟨q0, q1, q2, q3, rfl, rfl, rfl⟩ | ⟨q0, q1, q2, q3, rfl, rfl, rfl⟩ | ⟨q0, q1, q2, q3, q4, rfl, rfl, rfl⟩ | ⟨q0, q1, q2, q3, q4, q5, rfl, rfl, rfl⟩ | ⟨q0, q1, q2, q3, q4, q5, rfl, rfl, rfl⟩
  all_goals
    go_enter Try.func3, Try.ntmps3
    go_wp2_with fail
    go_quiet (fail)
    go_wp2_with fail
    refine (opaque_any _ _ _ _).mono ?_
    rintro e w1 ⟨rfl, hk1⟩
    have HK1 := Lib.hid (HK0.out.then_ (T := fun _ => False) (((Kp.refl _ _).drewN _).then_ hk1 (fun _ h => h.elim)) (fun _ h => h.elim))
    clear hk1
    go_wp2_with fail
    refine (HA.out _).mono ?_
    rintro e w2 ⟨rfl, hk2⟩
    have HK2 := Lib.hid (HK1.out.then_ hk2 (fun _ h => h.elim))
    clear hk2
    go_wp2_with fail
    refine (number_any _ _).mono ?_
    rintro e w3 ⟨rfl, hk3⟩
    have HK3 := Lib.hid (HK2.out.then_ hk3 (fun _ h => h.elim))
    clear hk3
    go_wp2_with fail
    refine (HL.out _).mono ?_
    rintro e w4 ⟨B, rfl, hf4, hk4⟩
    have HK4 := Lib.hid (HK3.out.then_ hk4 (fun _ h => h.elim))
    have HF4 := Lib.hid hf4
    clear hk4 hf4
    go_wp2_with fail
    refine (HB.out _ _ HF4.out).mono ?_
    rintro e w5 ⟨rfl, hk5⟩
    have HK5 := Lib.hid (HK4.out.then_ hk5 (fun _ h => h.elim))
    clear hk5
    go_wp2_with fail
    refine (rest_any _ _ _).mono ?_
    rintro e w6 ⟨rfl, hk6⟩
    have HK6 := Lib.hid (HK5.out.then_ hk6 (fun _ h => h.elim))
    clear hk6
    go_wp2_with fail
    refine (HC.out _).mono ?_
    rintro e w7 ⟨rfl, hk7⟩
    have HK7 := Lib.hid (HK6.out.then_ hk7 (fun _ h => h.elim))
    clear hk7
    go_wp2_with fail
    refine (alive04 _).mono ?_
    rintro e w8 ⟨rfl, hk8⟩
    have HK8 := Lib.hid (HK7.out.then_ hk8 (fun _ h => h.elim))
    clear hk8
    go_wp2_with fail
    go_ret
    exact ⟨rfl, HK8.out⟩
set_option maxRecDepth 100000 in
set_option maxHeartbeats 12800000 in
theorem flen_2 (w : World) (lo hi st : Int) (hlo : i64B lo) (hhi : i64B hi) (hst : i64B st) (a b c : Int) (ha : ownN 1 2 lo hi 1 0 = a) (hb : ownN 2 2 lo hi st 1 = b) (hc : boundsR lo hi 16777215 = c)
    (hcase : (decide (0 ≤ lo) = false ∧ a = 5 ∧ b = 5 ∧ c = 5) ∨
      (decide (0 ≤ lo) = true ∧ decide (lo ≤ hi) = false ∧ a = 5 ∧ b = 5 ∧ c = 5) ∨
      (decide (0 ≤ lo) = true ∧ decide (lo ≤ hi) = true ∧ decide (hi < 65536) = false ∧ decide (hi ≤ 16777215) = true ∧ a = 5 ∧ b = 5 ∧ c = 0) ∨
      (decide (0 ≤ lo) = true ∧ decide (lo ≤ hi) = true ∧ decide (hi < 65536) = false ∧ decide (hi ≤ 16777215) = false ∧ a = 5 ∧ b = 5 ∧ c = 5) ∨
      (decide (0 ≤ lo) = true ∧ decide (lo ≤ hi) = true ∧ decide (hi < 65536) = true ∧ decide (hi ≤ 16777215) = true ∧ decide (1 ≤ st) = false ∧ a = 0 ∧ b = 5 ∧ c = 0) ∨
      (decide (0 ≤ lo) = true ∧ decide (lo ≤ hi) = true ∧ decide (hi < 65536) = true ∧ decide (hi ≤ 16777215) = true ∧ decide (1 ≤ st) = true ∧ decide (st ≤ 65536) = false ∧ a = 0 ∧ b = 5 ∧ c = 0) ∨
      (decide (0 ≤ lo) = true ∧ decide (lo ≤ hi) = true ∧ decide (hi < 65536) = true ∧ decide (hi ≤ 16777215) = true ∧ decide (1 ≤ st) = true ∧ decide (st ≤ 65536) = true ∧ a = 0 ∧ b = 0 ∧ c = 0)) :
    Calls Try.prog 3 #[.agg #[.int .i64 2, .int .i64 lo, .int .i64 hi, .int .i64 st]] w fun e w' => e = .returned (.bool true) ∧ Kp (fun _ => False) w w' := by
  have hs : i64B 2 := by unfold i64B; omega
  have HA := Lib.hid (fun W => (chk_flat 1 2 lo hi 1).trans ha ▸ (FmW.flat W 1 2 lo hi 1 b1 hs hlo hhi b1).check)
  have HB := Lib.hid (fun W v (h : FmW W v (.mk ⟨2, 2, lo, hi, st⟩ [.mk ⟨0, 1, 0, 0, 0⟩ []])) => (chk_list1 2 lo hi st).trans hb ▸ h.check)
  have HL := Lib.hid (fun W => list_any 2 lo hi st (.mk ⟨0, 1, 0, 0, 0⟩ []) none 0 W hs hlo hhi hst (FmW.flat W 0 1 0 0 0 b0 b1 b0 b0 b0))
  have HC := Lib.hid (fun W => (chk_flat 4 0 lo hi 0).trans (show ownN 4 0 lo hi 0 0 = c from hc) ▸ (FmW.flat W 4 0 lo hi 0 (by unfold i64B; omega) b0 hlo hhi b0).check)
  have HK0 := Lib.hid ((Kp.refl (fun _ => False) w).alloc (.cells #[.int .i64 2, .int .i64 lo, .int .i64 hi, .int .i64 st] 22))
  clear ha hb hc
  rcases hcase with ⟨q0, rfl, rfl, rfl⟩ | ⟨q0, q1, rfl, rfl, rfl⟩ | ⟨q0, q1, q2, q3, rfl, rfl, rfl⟩ | ⟨q0, q1, q2, q3, rfl, rfl, rfl⟩ | ⟨q0, q1, q2, q3, q4, rfl, rfl, rfl⟩ | ⟨q0, q1, q2, q3, q4, q5, rfl, rfl, rfl⟩ | ⟨q0, q1, q2, q3, q4, q5, rfl, rfl, rfl⟩
  all_goals
    go_enter Try.func3, Try.ntmps3
    go_wp2_with fail
    go_quiet (fail)
    go_wp2_with fail
    refine (opaque_any _ _ _ _).mono ?_
    rintro e w1 ⟨rfl, hk1⟩
    have HK1 := Lib.hid (HK0.out.then_ (T := fun _ => False) (((Kp.refl _ _).drewN _).then_ hk1 (fun _ h => h.elim)) (fun _ h => h.elim))
    clear hk1
    go_wp2_with fail
    refine (HA.out _).mono ?_
    rintro e w2 ⟨rfl, hk2⟩
    have HK2 := Lib.hid (HK1.out.then_ hk2 (fun _ h => h.elim))
    clear hk2
    go_wp2_with fail
    refine (number_any _ _).mono ?_
    rintro e w3 ⟨rfl, hk3⟩
    have HK3 := Lib.hid (HK2.out.then_ hk3 (fun _ h => h.elim))
    clear hk3
    go_wp2_with fail
    refine (HL.out _).mono ?_
    rintro e w4 ⟨B, rfl, hf4, hk4⟩
    have HK4 := Lib.hid (HK3.out.then_ hk4 (fun _ h => h.elim))
    have HF4 := Lib.hid hf4
    clear hk4 hf4
    go_wp2_with fail
    refine (HB.out _ _ HF4.out).mono ?_
    rintro e w5 ⟨rfl, hk5⟩
    have HK5 := Lib.hid (HK4.out.then_ hk5 (fun _ h => h.elim))
    clear hk5
    go_wp2_with fail
    refine (rest_any _ _ _).mono ?_
    rintro e w6 ⟨rfl, hk6⟩
    have HK6 := Lib.hid (HK5.out.then_ hk6 (fun _ h => h.elim))
    clear hk6
    go_wp2_with fail
    refine (HC.out _).mono ?_
    rintro e w7 ⟨rfl, hk7⟩
    have HK7 := Lib.hid (HK6.out.then_ hk7 (fun _ h => h.elim))
    clear hk7
    go_wp2_with fail
    refine (alive04 _).mono ?_
    rintro e w8 ⟨rfl, hk8⟩
    have HK8 := Lib.hid (HK7.out.then_ hk8 (fun _ h => h.elim))
    clear hk8
    go_wp2_with fail
    go_ret
    exact ⟨rfl, HK8.out⟩
set_option maxRecDepth 100000 in
set_option maxHeartbeats 12800000 in
theorem flen_3 (w : World) (lo hi st : Int) (hlo : i64B lo) (hhi : i64B hi) (hst : i64B st) (a b c : Int) (ha : ownN 1 3 lo hi 1 0 = a) (hb : ownN 2 3 lo hi st 1 = b) (hc : boundsR lo hi 16777215 = c)
    (hcase : (decide (0 ≤ lo) = false ∧ a = 5 ∧ b = 5 ∧ c = 5) ∨
      (decide (0 ≤ lo) = true ∧ decide (lo ≤ hi) = false ∧ a = 5 ∧ b = 5 ∧ c = 5) ∨
      (decide (0 ≤ lo) = true ∧ decide (lo ≤ hi) = true ∧ decide (hi < 16777216) = false ∧ decide (hi ≤ 16777215) = true ∧ a = 5 ∧ b = 5 ∧ c = 0) ∨
      (decide (0 ≤ lo) = true ∧ decide (lo ≤ hi) = true ∧ decide (hi < 16777216) = false ∧ decide (hi ≤ 16777215) = false ∧ a = 5 ∧ b = 5 ∧ c = 5) ∨
      (decide (0 ≤ lo) = true ∧ decide (lo ≤ hi) = true ∧ decide (hi < 16777216) = true ∧ decide (hi ≤ 16777215) = true ∧ decide (1 ≤ st) = false ∧ a = 0 ∧ b = 5 ∧ c = 0) ∨
      (decide (0 ≤ lo) = true ∧ decide (lo ≤ hi) = true ∧ decide (hi < 16777216) = true ∧ decide (hi ≤ 16777215) = true ∧ decide (1 ≤ st) = true ∧ decide (st ≤ 65536) = false ∧ a = 0 ∧ b = 5 ∧ c = 0) ∨
      (decide (0 ≤ lo) = true ∧ decide (lo ≤ hi) = true ∧ decide (hi < 16777216) = true ∧ decide (hi ≤ 16777215) = true ∧ decide (1 ≤ st) = true ∧ decide (st ≤ 65536) = true ∧ a = 0 ∧ b = 0 ∧ c = 0)) :
    Calls Try.prog 3 #[.agg #[.int .i64 3, .int .i64 lo, .int .i64 hi, .int .i64 st]] w fun e w' => e = .returned (.bool true) ∧ Kp (fun _ => False) w w' := by
  have hs : i64B 3 := by unfold i64B; omega
  have HA := Lib.hid (fun W => (chk_flat 1 3 lo hi 1).trans ha ▸ (FmW.flat W 1 3 lo hi 1 b1 hs hlo hhi b1).check)
  have HB := Lib.hid (fun W v (h : FmW W v (.mk ⟨2, 3, lo, hi, st⟩ [.mk ⟨0, 1, 0, 0, 0⟩ []])) => (chk_list1 3 lo hi st).trans hb ▸ h.check)
  have HL := Lib.hid (fun W => list_any 3 lo hi st (.mk ⟨0, 1, 0, 0, 0⟩ []) none 0 W hs hlo hhi hst (FmW.flat W 0 1 0 0 0 b0 b1 b0 b0 b0))
  have HC := Lib.hid (fun W => (chk_flat 4 0 lo hi 0).trans (show ownN 4 0 lo hi 0 0 = c from hc) ▸ (FmW.flat W 4 0 lo hi 0 (by unfold i64B; omega) b0 hlo hhi b0).check)
  have HK0 := Lib.hid ((Kp.refl (fun _ => False) w).alloc (.cells #[.int .i64 3, .int .i64 lo, .int .i64 hi, .int .i64 st] 22))
  clear ha hb hc
  rcases hcase with ⟨q0, rfl, rfl, rfl⟩ | ⟨q0, q1, rfl, rfl, rfl⟩ | ⟨q0, q1, q2, q3, rfl, rfl, rfl⟩ | ⟨q0, q1, q2, q3, rfl, rfl, rfl⟩ | ⟨q0, q1, q2, q3, q4, rfl, rfl, rfl⟩ | ⟨q0, q1, q2, q3, q4, q5, rfl, rfl, rfl⟩ | ⟨q0, q1, q2, q3, q4, q5, rfl, rfl, rfl⟩
  all_goals
    go_enter Try.func3, Try.ntmps3
    go_wp2_with fail
    go_quiet (fail)
    go_wp2_with fail
    refine (opaque_any _ _ _ _).mono ?_
    rintro e w1 ⟨rfl, hk1⟩
    have HK1 := Lib.hid (HK0.out.then_ (T := fun _ => False) (((Kp.refl _ _).drewN _).then_ hk1 (fun _ h => h.elim)) (fun _ h => h.elim))
    clear hk1
    go_wp2_with fail
    refine (HA.out _).mono ?_
    rintro e w2 ⟨rfl, hk2⟩
    have HK2 := Lib.hid (HK1.out.then_ hk2 (fun _ h => h.elim))
    clear hk2
    go_wp2_with fail
    refine (number_any _ _).mono ?_
    rintro e w3 ⟨rfl, hk3⟩
    have HK3 := Lib.hid (HK2.out.then_ hk3 (fun _ h => h.elim))
    clear hk3
    go_wp2_with fail
    refine (HL.out _).mono ?_
    rintro e w4 ⟨B, rfl, hf4, hk4⟩
    have HK4 := Lib.hid (HK3.out.then_ hk4 (fun _ h => h.elim))
    have HF4 := Lib.hid hf4
    clear hk4 hf4
    go_wp2_with fail
    refine (HB.out _ _ HF4.out).mono ?_
    rintro e w5 ⟨rfl, hk5⟩
    have HK5 := Lib.hid (HK4.out.then_ hk5 (fun _ h => h.elim))
    clear hk5
    go_wp2_with fail
    refine (rest_any _ _ _).mono ?_
    rintro e w6 ⟨rfl, hk6⟩
    have HK6 := Lib.hid (HK5.out.then_ hk6 (fun _ h => h.elim))
    clear hk6
    go_wp2_with fail
    refine (HC.out _).mono ?_
    rintro e w7 ⟨rfl, hk7⟩
    have HK7 := Lib.hid (HK6.out.then_ hk7 (fun _ h => h.elim))
    clear hk7
    go_wp2_with fail
    refine (alive04 _).mono ?_
    rintro e w8 ⟨rfl, hk8⟩
    have HK8 := Lib.hid (HK7.out.then_ hk8 (fun _ h => h.elim))
    clear hk8
    go_wp2_with fail
    go_ret
    exact ⟨rfl, HK8.out⟩

theorem flen_case (s lo hi st M : Int) (hs : 1 ≤ s ∧ s ≤ 3) (hM : (256 : Int) ^ s.toNat = M) (hM2 : M ≤ 16777216) (a b c : Int) (ha : ownN 1 s lo hi 1 0 = a) (hb : ownN 2 s lo hi st 1 = b) (hc : boundsR lo hi 16777215 = c) :
    (decide (0 ≤ lo) = false ∧ a = 5 ∧ b = 5 ∧ c = 5) ∨ (decide (0 ≤ lo) = true ∧ decide (lo ≤ hi) = false ∧ a = 5 ∧ b = 5 ∧ c = 5) ∨
    (decide (0 ≤ lo) = true ∧ decide (lo ≤ hi) = true ∧ decide (hi < M) = false ∧ decide (hi ≤ 16777215) = true ∧ a = 5 ∧ b = 5 ∧ c = 0) ∨
    (decide (0 ≤ lo) = true ∧ decide (lo ≤ hi) = true ∧ decide (hi < M) = false ∧ decide (hi ≤ 16777215) = false ∧ a = 5 ∧ b = 5 ∧ c = 5) ∨
    (decide (0 ≤ lo) = true ∧ decide (lo ≤ hi) = true ∧ decide (hi < M) = true ∧ decide (hi ≤ 16777215) = true ∧ decide (1 ≤ st) = false ∧ a = 0 ∧ b = 5 ∧ c = 0) ∨
    (decide (0 ≤ lo) = true ∧ decide (lo ≤ hi) = true ∧ decide (hi < M) = true ∧ decide (hi ≤ 16777215) = true ∧ decide (1 ≤ st) = true ∧ decide (st ≤ 65536) = false ∧ a = 0 ∧ b = 5 ∧ c = 0) ∨
    (decide (0 ≤ lo) = true ∧ decide (lo ≤ hi) = true ∧ decide (hi < M) = true ∧ decide (hi ≤ 16777215) = true ∧ decide (1 ≤ st) = true ∧ decide (st ≤ 65536) = true ∧ a = 0 ∧ b = 0 ∧ c = 0) := by
  have e1 : a = if boundsR lo hi (M - 1) ≠ 0 then 5 else 0 := by
    rw [← ha, ownN, if_neg (by omega), if_pos (.inr rfl), if_neg (by omega), hM]
    by_cases h : boundsR lo hi (M - 1) ≠ 0
    · rw [if_pos (.inl h), if_pos h]
    · rw [if_neg (by omega), if_neg (by omega), if_neg h]
  have e2 : b = if boundsR lo hi (M - 1) ≠ 0 ∨ st < 1 ∨ 65536 < st then 5 else 0 := by
    rw [← hb, ownN, if_neg (by omega), if_pos (.inl rfl), if_neg (by omega), hM]
    by_cases h : boundsR lo hi (M - 1) ≠ 0 ∨ st < 1 ∨ 65536 < st
    · rw [if_pos h, if_pos h]
    · rw [if_neg h, if_neg (by omega), if_neg h]
  clear ha hb
  by_cases p0 : 0 ≤ lo
  · by_cases p1 : lo ≤ hi
    · by_cases p2 : hi < M
      · have f1 := bounds_yes (M := M - 1) p0 p1 (by omega)
        have f2 := bounds_yes (M := 16777215) p0 p1 (by omega)
        rw [f1] at e1 e2
        rw [if_neg (by omega)] at e1
        have f3 : decide (hi ≤ 16777215) = true := decide_eq_true (by omega)
        by_cases p3 : 1 ≤ st
        · by_cases p4 : st ≤ 65536
          · rw [if_neg (by omega)] at e2
            exact .inr (.inr (.inr (.inr (.inr (.inr ⟨decide_eq_true p0, decide_eq_true p1, decide_eq_true p2, f3, decide_eq_true p3, decide_eq_true p4, e1, e2, by omega⟩)))))
          · rw [if_pos (by omega)] at e2
            exact .inr (.inr (.inr (.inr (.inr (.inl ⟨decide_eq_true p0, decide_eq_true p1, decide_eq_true p2, f3, decide_eq_true p3, decide_eq_false p4, e1, e2, by omega⟩)))))
        · rw [if_pos (by omega)] at e2
          exact .inr (.inr (.inr (.inr (.inl ⟨decide_eq_true p0, decide_eq_true p1, decide_eq_true p2, f3, decide_eq_false p3, e1, e2, by omega⟩))))
      · have f1 := bounds_no (lo := lo) (hi := hi) (M := M - 1) (by omega)
        rw [f1] at e1 e2
        rw [if_pos (by omega)] at e1
        rw [if_pos (by omega)] at e2
        by_cases p3 : hi ≤ 16777215
        · have f2 := bounds_yes (M := 16777215) p0 p1 p3
          exact .inr (.inr (.inl ⟨decide_eq_true p0, decide_eq_true p1, decide_eq_false p2, decide_eq_true p3, e1, e2, by omega⟩))
        · have f2 := bounds_no (lo := lo) (hi := hi) (M := 16777215) (by omega)
          exact .inr (.inr (.inr (.inl ⟨decide_eq_true p0, decide_eq_true p1, decide_eq_false p2, decide_eq_false p3, e1, e2, by omega⟩)))
    · have f1 := bounds_no (lo := lo) (hi := hi) (M := M - 1) (by omega)
      have f2 := bounds_no (lo := lo) (hi := hi) (M := 16777215) (by omega)
      rw [f1] at e1 e2
      rw [if_pos (by omega)] at e1
      rw [if_pos (by omega)] at e2
      exact .inr (.inl ⟨decide_eq_true p0, decide_eq_false p1, e1, e2, by omega⟩)
  · have f1 := bounds_no (lo := lo) (hi := hi) (M := M - 1) (by omega)
    have f2 := bounds_no (lo := lo) (hi := hi) (M := 16777215) (by omega)
    rw [f1] at e1 e2
    rw [if_pos (by omega)] at e1
    rw [if_pos (by omega)] at e2
    exact .inl ⟨decide_eq_false p0, e1, e2, by omega⟩

theorem flengths_walk (w : World) (v : Value) (x : Int × Int × Int × Int) (hv : v = .agg #[.int .i64 x.1, .int .i64 x.2.1, .int .i64 x.2.2.1, .int .i64 x.2.2.2] ∧ i64B x.1 ∧ i64B x.2.1 ∧ i64B x.2.2.1 ∧ i64B x.2.2.2) :
    Calls Try.prog 3 #[v] w fun e w' => e = .returned (.bool true) ∧ Below w.heap.size w w' := by
  obtain ⟨s, lo, hi, st⟩ := x
  obtain ⟨rfl, hs, hlo, hhi, hst⟩ := hv
  simp only at hs hlo hhi hst ⊢
  have fin : (Calls Try.prog 3 #[.agg #[.int .i64 s, .int .i64 lo, .int .i64 hi, .int .i64 st]] w fun e w' => e = .returned (.bool true) ∧ Kp (fun _ => False) w w') → Calls Try.prog 3 #[.agg #[.int .i64 s, .int .i64 lo, .int .i64 hi, .int .i64 st]] w fun e w' => e = .returned (.bool true) ∧ Below w.heap.size w w' :=
    fun h => h.mono fun _ _ ⟨he, hk⟩ => ⟨he, hk.below⟩
  apply fin
  by_cases h : s < 1 ∨ 3 < s
  · have e1 : ownN 1 s lo hi 1 0 = 3 := by rw [ownN, if_neg (by omega), if_pos (.inr rfl), if_pos h]
    have e2 : ownN 2 s lo hi st 1 = 3 := by rw [ownN, if_neg (by omega), if_pos (.inl rfl), if_pos h]
    refine flen_bad w s lo hi st hs hlo hhi hst 3 3 _ e1 e2 rfl ?_
    by_cases h1 : s < 1
    · exact .inl ⟨rfl, rfl, decide_eq_true h1⟩
    · exact .inr ⟨rfl, rfl, decide_eq_false h1, decide_eq_true (by omega)⟩
  · have h3 : s = 1 ∨ s = 2 ∨ s = 3 := by omega
    rcases h3 with rfl | rfl | rfl
    · exact flen_1 w lo hi st hlo hhi hst _ _ _ rfl rfl rfl (flen_case 1 lo hi st 256 (by omega) (by decide) (by omega) _ _ _ rfl rfl rfl)
    · exact flen_2 w lo hi st hlo hhi hst _ _ _ rfl rfl rfl (flen_case 2 lo hi st 65536 (by omega) (by decide) (by omega) _ _ _ rfl rfl rfl)
    · exact flen_3 w lo hi st hlo hhi hst _ _ _ rfl rfl rfl (flen_case 3 lo hi st 16777216 (by omega) (by decide) (by omega) _ _ _ rfl rfl rfl)
end Go.Proofs.Ytfcghajnnllmhaa
