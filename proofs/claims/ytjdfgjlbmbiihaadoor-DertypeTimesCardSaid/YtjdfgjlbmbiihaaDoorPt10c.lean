/-
  Plain: what Check and Time tell of dates that are written.
-/
import Derived.Test.YtjdfgjlbmbiihaaDoorTy19
namespace Go.Proofs.YtjdfgjlbmbiihaaDoor
open Go

theorem time_of_date (Y m d h i s : Nat) (hY : Y < 10000) (hm : m < 100) (hd : d < 100) (hh : h < 100) (hi : i < 100) (hs : s < 100) (c : UInt8) :
    time15 (dateL (Y / 100) Y m d h i s c) = if c.toNat = 90 ∧ okT ⟨Y, m, d, h, i, s⟩ = true then some ⟨Y, m, d, h, i, s⟩ else none := by
  rw [time15_date, show Y / 100 % 100 * 100 + Y % 100 = Y by omega, Nat.mod_eq_of_lt hm, Nat.mod_eq_of_lt hd, Nat.mod_eq_of_lt hh, Nat.mod_eq_of_lt hi, Nat.mod_eq_of_lt hs]
theorem check_of_date (Y m d h i s : Nat) (hY : Y < 10000) (hm : m < 100) (hd : d < 100) (hh : h < 100) (hi : i < 100) (hs : s < 100) (c : UInt8) :
    checkR 24 (dateL (Y / 100) Y m d h i s c) = if c.toNat = 90 ∧ okT ⟨Y, m, d, h, i, s⟩ = true then 0 else 13 := by
  have e : checkR 24 (dateL (Y / 100) Y m d h i s c) = if (timeR 24 (dateL (Y / 100) Y m d h i s c)).isSome then 0 else 13 := rfl
  have e2 : timeR 24 (dateL (Y / 100) Y m d h i s c) = time15 (dateL (Y / 100) Y m d h i s c) := by rw [timeR, if_neg (by decide : ¬ (24 : Int) = 23)]
  rw [e, e2, time_of_date Y m d h i s hY hm hd hh hi hs]
  split <;> rfl
/-- Time, of both forms. -/
theorem timeV_date (Y m d h i s : Nat) (hY : Y < 10000) (hm : m < 100) (hd : d < 100) (hh : h < 100) (hi : i < 100) (hs : s < 100) (ok : okT ⟨Y, m, d, h, i, s⟩ = true) :
    timeV 24 (dateL (Y / 100) Y m d h i s 90) = (⟨Y, m, d, h, i, s⟩, 0) := by
  rw [timeV, if_pos (.inr rfl), timeR, if_neg (by decide : ¬ (24 : Int) = 23), time_of_date Y m d h i s hY hm hd hh hi hs, if_pos ⟨rfl, ok⟩]
theorem timeV_short (Y m d h i s : Nat) (hm : m < 100) (hd : d ≤ 28) (hh : h < 100) (hi : i < 100) (hs : s < 100) (ok : okT ⟨Y, m, d, h, i, s⟩ = true) :
    timeV 23 (two Y ++ two m ++ two d ++ two h ++ two i ++ two s ++ [90]) = (⟨(if 50 ≤ Y % 100 then 1900 else 2000) + Y % 100, m, d, h, i, s⟩, 0) := by
  rw [timeV, if_pos (.inl rfl), time23_date, time15_date]
  have hd2 : d % 100 = d := by omega
  rw [Nat.mod_eq_of_lt hm, hd2, Nat.mod_eq_of_lt hh, Nat.mod_eq_of_lt hi, Nat.mod_eq_of_lt hs]
  have e : (if 50 ≤ Y % 100 then 19 else 20) % 100 * 100 + Y % 100 = (if 50 ≤ Y % 100 then 1900 else 2000) + Y % 100 := by split <;> omega
  rw [e]
  have hok2 : okT ⟨(if 50 ≤ Y % 100 then 1900 else 2000) + Y % 100, m, d, h, i, s⟩ = true := by
    simp only [okT, Bool.and_eq_true, decide_eq_true_eq] at ok ⊢
    obtain ⟨⟨⟨⟨⟨⟨h1, h2⟩, h3⟩, _⟩, h5⟩, h6⟩, h7⟩ := ok
    refine ⟨⟨⟨⟨⟨⟨h1, h2⟩, h3⟩, ?_⟩, h5⟩, h6⟩, h7⟩
    have : ∀ y, 28 ≤ dim y m := by
      intro y
      rw [dim]
      split
      · omega
      · split
        · split <;> omega
        · omega
    exact Nat.le_trans hd (this _)
  rw [if_pos ⟨rfl, hok2⟩]
theorem ok_date (Y m d h i s : Nat) (hm : 1 ≤ m) (hm2 : m ≤ 12) (hd : 1 ≤ d) (hd2 : d ≤ 28) (hh : h ≤ 23) (hi : i ≤ 59) (hs : s ≤ 59) : okT ⟨Y, m, d, h, i, s⟩ = true := by
  have : 28 ≤ dim Y m := by
    rw [dim]
    split
    · omega
    · split
      · split <;> omega
      · omega
  simp only [okT, Bool.and_eq_true, decide_eq_true_eq]
  exact ⟨⟨⟨⟨⟨⟨hm, hm2⟩, hd⟩, by omega⟩, hh⟩, hi⟩, hs⟩

/-! ### Six numbers, compared. -/
open Go.RowKit in
theorem eq_int (w : World) (d : Nat) (a b : Nat) : (Op.equalIn (d + 1) 3 (.int .i64 (a : Int)) (.int .i64 (b : Int))).run Tryd.prog w = .ok (decide (a = b)) w := by
  simp [Op.equalIn, run_underlying Tryd.underlying3]
  rw [Bool.eq_iff_iff]
  simp
  omega
open Go.RowKit in
theorem eq6 (w : World) (x y : T6) : (Op.equalIn 10000 56 x.v y.v).run Tryd.prog w = .ok (decide (x = y)) w := by
  show (Op.equalIn (9998 + 2) 56 x.v y.v).run Tryd.prog w = _
  simp only [T6.v]
  rw [Op.equalIn.eq_def]
  have e : ∀ x y : T6, decide (x = y) = (decide (x.a = y.a) && (decide (x.b = y.b) && (decide (x.c = y.c) && (decide (x.d = y.d) && (decide (x.e = y.e) && decide (x.f = y.f)))))) := by
    intro x y
    obtain ⟨a, b, c, e, f, g⟩ := x
    obtain ⟨a', b', c', e', f', g'⟩ := y
    simp
  rw [e]
  simp [run_underlying Tryd.underlying56, List.range', go_sem, eq_int]
  by_cases h0 : x.a = y.a <;> simp [h0]
  by_cases h1 : x.b = y.b <;> simp [h1]
  by_cases h2 : x.c = y.c <;> simp [h2]
  by_cases h3 : x.d = y.d <;> simp [h3]
  by_cases h4 : x.e = y.e <;> simp [h4]
  by_cases h5 : x.f = y.f <;> simp [h5]
end Go.Proofs.YtjdfgjlbmbiihaaDoor
