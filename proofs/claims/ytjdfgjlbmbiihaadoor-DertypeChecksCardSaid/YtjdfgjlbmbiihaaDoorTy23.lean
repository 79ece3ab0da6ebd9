/-
  The document's Check, Number.
-/
import Derived.Test.YtjdfgjlbmbiihaaDoorTy21
import Derived.Test.YtjdfgjlbmbiihaaDoorTy22
import Derived.Test.YtjdfgjlbmbiihaaDoorTy19
namespace Go.Proofs.YtjdfgjlbmbiihaaDoor
open Go.RowKit

theorem rtime_any (tag : Int) (h : tag = 23 ∨ tag = 24) (ok : Nat → Prop) (v : Value) (l : List UInt8) (w : World) (hv : BR w ok v l) :
    Calls Tryd.prog 30 #[.int .i64 tag, v] w fun e w' => e = .returned (.tuple #[((timeR tag l).getD T6.zero).v, .bool (timeR tag l).isSome]) ∧ Kp (fun _ => False) w w' := by
  rcases h with rfl | rfl
  · rw [← timeD_short]
    exact rtime_b ok v l w hv
  · rw [← timeD_long]
    exact rtime_a ok v l w hv

/-- The document's words on an integer's bytes. -/
def intD (l : List UInt8) : Bool := decide (l.length = 1) || (decide (1 < l.length) && !(decide (bt l 0 = 0) && decide (bt l 1 < 128)) && !(decide (bt l 0 = 255) && decide (128 ≤ bt l 1)))
theorem intD_eq (l : List UInt8) : intD l = intB l := by
  match l with
  | [] => rfl
  | [_] => rfl
  | a :: b :: t =>
    have h0 : bt (a :: b :: t) 0 = a.toNat := rfl
    have h1 : bt (a :: b :: t) 1 = b.toNat := rfl
    have ha := a.toNat_lt
    have hb := b.toNat_lt
    rw [intD, intB, h0, h1, Bool.eq_iff_iff]
    simp
    omega

set_option maxRecDepth 100000 in
set_option maxHeartbeats 3200000 in
theorem rcheck_int (tag : Int) (ht : tag = 2 ∨ tag = 10) (ok : Nat → Prop) (v : Value) (l : List UInt8) (w : World) (hv : BR w ok v l) (hl : l.length ≤ 140737488355328) :
    Calls Tryd.prog 28 #[.int .i64 tag, v] w fun e w' => e = .returned (.int .i64 (if intB l then 0 else 13)) ∧ Kp (fun _ => False) w w' := by
  obtain ⟨A, c, rfl, hc, hr⟩ := id hv
  obtain ⟨r, hr0⟩ : ∃ r, intB l = r := ⟨_, rfl⟩
  rw [hr0]
  rw [← intD_eq, intD] at hr0
  by_cases h1 : l.length = 1
  · have hr1 : r = true := by rw [← hr0, decide_eq_true h1]; rfl
    subst hr1
    rw [h1] at hc ⊢
    clear hr0 hr hv h1
    rcases ht with rfl | rfl
    all_goals
      go_enter Tryd.func28, Tryd.ntmps28
      go_wp2_with fail
      go_ret
      exact ⟨rfl, Kp.refl _ _⟩
  by_cases h0 : l.length = 0
  · have hr1 : r = false := by rw [← hr0, h0]; rfl
    subst hr1
    rw [h0] at hc ⊢
    clear hr0 hr hv h1 h0
    rcases ht with rfl | rfl
    all_goals
      go_enter Tryd.func28, Tryd.ntmps28
      go_wp2_with fail
      go_ret
      exact ⟨rfl, Kp.refl _ _⟩
  obtain ⟨n, hn⟩ : ∃ n, l.length = n + 2 := ⟨l.length - 2, by omega⟩
  obtain ⟨g, off, rfl, _, hc0⟩ := hr.byte (k := 0) (by omega)
  obtain ⟨g', off', ee, _, hc1⟩ := hr.byte (k := 1) (by omega)
  simp only [Option.some.injEq, Addr.mk.injEq, and_true] at ee
  obtain ⟨rfl, rfl⟩ := ee
  rw [← bt_at (l := l) (i := 0) (by omega), Nat.add_zero] at hc0
  rw [← bt_at (l := l) (i := 1) (by omega)] at hc1
  have b0 := bt_lt l 0
  have b1 := bt_lt l 1
  rw [decide_eq_false h1, Bool.false_or, decide_eq_true (by omega : 1 < l.length), Bool.true_and] at hr0
  generalize bt l 0 = x at hc0 b0 hr0
  generalize bt l 1 = y at hc1 b1 hr0
  rw [hn] at hc hl ⊢
  have g1 : ((n : Int) + 2 == 1) = false := by simp; omega
  have g2 : decide ((1 : Int) < (n : Int) + 2) = true := by simp; omega
  have g3 : (1 : Int) < (n : Int) + 2 := by omega
  clear hr hv h1 h0 hn
  have hxy : ∃ p0 p1 q : Bool, ((x : Int) == 0) = p0 ∧ ((x : Int) == 255) = p1 ∧ decide ((y : Int) < 128) = q ∧ decide ((128 : Int) ≤ (y : Int)) = (!q) ∧ r = (!(p0 && q) && !(p1 && !q)) := by
    refine ⟨_, _, _, rfl, rfl, rfl, ?_, ?_⟩
    · rw [Bool.eq_iff_iff]; simp
    · rw [← hr0, Bool.eq_iff_iff]
      simp
      omega
  obtain ⟨p0, p1, q, e0, e1, e2, e3, e4⟩ := hxy
  clear hr0
  cases p0 <;> cases p1 <;> cases q <;> (try (exfalso; simp at e0 e1; omega))
  all_goals
    simp at e3 e4
    subst e4
    rcases ht with rfl | rfl
    all_goals
      go_enter Tryd.func28, Tryd.ntmps28
      go_wp2_with fail
      go_ret
      exact ⟨rfl, Kp.refl _ _⟩

set_option maxRecDepth 100000 in
set_option maxHeartbeats 3200000 in
theorem rcheck_1 (ok : Nat → Prop) (v : Value) (l : List UInt8) (w : World) (hv : BR w ok v l) :
    Calls Tryd.prog 28 #[.int .i64 1, v] w fun e w' => e = .returned (.int .i64 (if boolB l then 0 else 13)) ∧ Kp (fun _ => False) w w' := by
  obtain ⟨A, c, rfl, hc, hr⟩ := hv
  obtain ⟨r, hr0⟩ : ∃ r, boolB l = r := ⟨_, rfl⟩
  rw [hr0]
  rw [boolB] at hr0
  by_cases h1 : l.length = 1
  · obtain ⟨g, off, rfl, _, hc0⟩ := hr.byte (k := 0) (by omega)
    rw [← bt_at (l := l) (i := 0) (by omega), Nat.add_zero] at hc0
    generalize bt l 0 = x at hr0 hc0
    rw [decide_eq_true h1, Bool.true_and] at hr0
    rw [h1] at hc ⊢
    have hb : ((x : Int) == 0) = decide (x = 0) := by rw [Bool.eq_iff_iff]; simp
    have hb2 : ((x : Int) == 255) = decide (x = 255) := by rw [Bool.eq_iff_iff]; simp; omega
    generalize decide (x = 0) = p at hb hr0
    generalize decide (x = 255) = q at hb2 hr0
    clear hr h1
    cases p <;> cases q <;> (subst hr0)
    all_goals
      go_enter Tryd.func28, Tryd.ntmps28
      go_wp2_with fail
      go_ret
      exact ⟨rfl, Kp.refl _ _⟩
  · have hr1 : r = false := by rw [← hr0, decide_eq_false h1]; rfl
    subst hr1
    have g0 : ((l.length : Int) == 1) = false := by simp; omega
    clear hr0 hr h1
    go_enter Tryd.func28, Tryd.ntmps28
    go_wp2_with fail
    go_ret
    exact ⟨rfl, Kp.refl _ _⟩
set_option maxRecDepth 100000 in
theorem rcheck_5 (ok : Nat → Prop) (v : Value) (l : List UInt8) (w : World) (hv : BR w ok v l) :
    Calls Tryd.prog 28 #[.int .i64 5, v] w fun e w' => e = .returned (.int .i64 (if decide (l.length = 0) then 0 else 13)) ∧ Kp (fun _ => False) w w' := by
  obtain ⟨A, c, rfl, hc, hr⟩ := hv
  have hb : ((l.length : Int) == 0) = decide (l.length = 0) := by rw [Bool.eq_iff_iff]; simp
  by_cases h0 : l.length = 0
  · rw [h0] at hc ⊢
    clear hr hb h0
    go_enter Tryd.func28, Tryd.ntmps28
    go_wp2_with fail
    go_ret
    exact ⟨rfl, Kp.refl _ _⟩
  · rw [decide_eq_false h0] at hb ⊢
    have h1 : l.length ≠ 0 := h0
    clear hr
    go_enter Tryd.func28, Tryd.ntmps28
    go_wp2_with fail
    go_ret
    exact ⟨rfl, Kp.refl _ _⟩
set_option maxRecDepth 100000 in
set_option maxHeartbeats 3200000 in
theorem rcheck_3 (ok : Nat → Prop) (v : Value) (l : List UInt8) (w : World) (hv : BR w ok v l) (hl : l.length ≤ 140737488355328) :
    Calls Tryd.prog 28 #[.int .i64 3, v] w fun e w' => e = .returned (.int .i64 (if bitsB l then 0 else 13)) ∧ Kp (fun _ => False) w w' := by
  have HC := Lib.hid (rbits_any ok v l w hv hl)
  generalize bitsB l = r at HC ⊢
  clear hv
  cases r
  all_goals
    go_enter Tryd.func28, Tryd.ntmps28
    go_wp2_with fail
    refine HC.out.mono ?_
    rintro e w1 ⟨rfl, rfl⟩
    go_wp2_with fail
    go_ret
    exact ⟨rfl, Kp.refl _ _⟩
set_option maxRecDepth 100000 in
set_option maxHeartbeats 3200000 in
theorem rcheck_6 (ok : Nat → Prop) (v : Value) (l : List UInt8) (w : World) (hv : BR w ok v l) (hl : l.length ≤ 140737488355328) :
    Calls Tryd.prog 28 #[.int .i64 6, v] w fun e w' => e = .returned (.int .i64 (if oidB l then 0 else 13)) ∧ Kp (fun _ => False) w w' := by
  have HC := Lib.hid (roid_any ok v l w hv hl)
  generalize oidB l = r at HC ⊢
  clear hv
  cases r
  all_goals
    go_enter Tryd.func28, Tryd.ntmps28
    go_wp2_with fail
    refine HC.out.mono ?_
    rintro e w1 ⟨rfl, rfl⟩
    go_wp2_with fail
    go_ret
    exact ⟨rfl, Kp.refl _ _⟩
set_option maxRecDepth 100000 in
set_option maxHeartbeats 3200000 in
theorem rcheck_t (tag : Int) (ht : tag = 23 ∨ tag = 24) (ok : Nat → Prop) (v : Value) (l : List UInt8) (w : World) (hv : BR w ok v l) :
    Calls Tryd.prog 28 #[.int .i64 tag, v] w fun e w' => e = .returned (.int .i64 (if (timeR tag l).isSome then 0 else 13)) ∧ Kp (fun _ => False) w w' := by
  have HC := Lib.hid (rtime_any tag ht ok v l w hv)
  generalize (timeR tag l).isSome = r at HC ⊢
  obtain ⟨t, htt⟩ : ∃ t, ((timeR tag l).getD T6.zero).v = t := ⟨_, rfl⟩
  rw [htt] at HC
  clear hv htt
  rcases ht with rfl | rfl
  all_goals
    cases r
    all_goals
      go_enter Tryd.func28, Tryd.ntmps28
      go_wp2_with fail
      refine HC.out.mono ?_
      rintro e w1 ⟨rfl, hk1⟩
      go_wp2_with fail
      go_ret
      exact ⟨rfl, hk1⟩
set_option maxRecDepth 100000 in
set_option maxHeartbeats 3200000 in
theorem rcheck_all (tag : Int) (ht : tag = 4 ∨ tag = 12 ∨ tag = 18 ∨ tag = 19 ∨ tag = 20 ∨ tag = 22 ∨ tag = 26 ∨ tag = 28 ∨ tag = 30) (v : Value) (w : World) :
    Calls Tryd.prog 28 #[.int .i64 tag, v] w fun e w' => e = .returned (.int .i64 0) ∧ Kp (fun _ => False) w w' := by
  rcases ht with rfl | rfl | rfl | rfl | rfl | rfl | rfl | rfl | rfl
  all_goals
    go_enter Tryd.func28, Tryd.ntmps28
    go_wp2_with fail
    go_ret
    exact ⟨rfl, Kp.refl _ _⟩
set_option maxRecDepth 100000 in
set_option maxHeartbeats 3200000 in
theorem rcheck_no (tag : Int) (h : tag ≠ 1 ∧ tag ≠ 2 ∧ tag ≠ 10 ∧ tag ≠ 3 ∧ tag ≠ 5 ∧ tag ≠ 6 ∧ tag ≠ 23 ∧ tag ≠ 24 ∧ tag ≠ 4 ∧ tag ≠ 12 ∧ tag ≠ 18 ∧ tag ≠ 19 ∧ tag ≠ 20 ∧ tag ≠ 22 ∧ tag ≠ 26 ∧ tag ≠ 28 ∧ tag ≠ 30) (v : Value) (w : World) :
    Calls Tryd.prog 28 #[.int .i64 tag, v] w fun e w' => e = .returned (.int .i64 2) ∧ Kp (fun _ => False) w w' := by
  have ne : ∀ k : Int, tag ≠ k → (tag == k) = false := fun k hk => by simpa using hk
  obtain ⟨h1, h2, h3, h4, h5, h6, h7, h8, h9, h10, h11, h12, h13, h14, h15, h16, h17⟩ := h
  have n1 := ne _ h1
  have n2 := ne _ h2
  have n3 := ne _ h3
  have n4 := ne _ h4
  have n5 := ne _ h5
  have n6 := ne _ h6
  have n7 := ne _ h7
  have n8 := ne _ h8
  have n9 := ne _ h9
  have n10 := ne _ h10
  have n11 := ne _ h11
  have n12 := ne _ h12
  have n13 := ne _ h13
  have n14 := ne _ h14
  have n15 := ne _ h15
  have n16 := ne _ h16
  have n17 := ne _ h17
  clear ne h1 h2 h3 h4 h5 h6 h7 h8 h9 h10 h11 h12 h13 h14 h15 h16 h17
  go_enter Tryd.func28, Tryd.ntmps28
  go_wp2_with fail
  go_ret
  exact ⟨rfl, Kp.refl _ _⟩

theorem rcheck_any (tag : Int) (ok : Nat → Prop) (v : Value) (l : List UInt8) (w : World) (hv : BR w ok v l) (hl : l.length ≤ 140737488355328) :
    Calls Tryd.prog 28 #[.int .i64 tag, v] w fun e w' => e = .returned (.int .i64 (checkR tag l)) ∧ Kp (fun _ => False) w w' := by
  rcases tag_cases tag with h | h
  · have all : ∀ t : Int, mayR t = some (fun _ => true) → checkR t l = 0 := fun t ht => by rw [checkR, ht]; rfl
    rcases h with rfl | rfl | rfl | rfl | rfl | rfl | rfl | rfl | rfl | rfl | rfl | rfl | rfl | rfl | rfl | rfl | rfl
    · exact rcheck_1 ok v l w hv
    · exact rcheck_int 2 (.inl rfl) ok v l w hv hl
    · exact rcheck_int 10 (.inr rfl) ok v l w hv hl
    · exact rcheck_3 ok v l w hv hl
    · exact rcheck_5 ok v l w hv
    · exact rcheck_6 ok v l w hv hl
    · exact rcheck_t 23 (.inl rfl) ok v l w hv
    · exact rcheck_t 24 (.inr rfl) ok v l w hv
    all_goals
      rw [all _ rfl]
      exact rcheck_all _ (by omega) v w
  · have e : checkR tag l = 2 := by rw [checkR, mayR_none tag h]
    rw [e]
    exact rcheck_no tag h v w
end Go.Proofs.YtjdfgjlbmbiihaaDoor
