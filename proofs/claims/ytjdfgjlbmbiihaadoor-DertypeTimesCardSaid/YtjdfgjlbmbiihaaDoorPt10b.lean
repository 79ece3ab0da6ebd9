/-
  Plain: the document's times; dates that are written.
-/
import Derived.Test.YtjdfgjlbmbiihaaDoorPt10
namespace Go.Proofs.YtjdfgjlbmbiihaaDoor
open Go

/-- The document's digits. -/
def digitsR (l : List UInt8) : Int := if digs l = true then (num l : Int) else -1
theorem digitsR_yes {l : List UInt8} (h : digs l = true) : digitsR l = (num l : Int) := if_pos h
theorem digitsR_no {l : List UInt8} (h : digs l = false) : digitsR l = -1 := if_neg (by simp [h])

/-- The document's time, of a year of n digits. -/
def chunk (l : List UInt8) (n i : Nat) : List UInt8 := (l.drop (n + 2 * i - 2)).take 2
def yearR (n y : Nat) : Nat := if n = 2 then (if 50 ≤ y then y + 1900 else y + 2000) else y
def tR (n : Nat) (l : List UInt8) : T6 := ⟨yearR n (num (l.take n)), num (chunk l n 1), num (chunk l n 2), num (chunk l n 3), num (chunk l n 4), num (chunk l n 5)⟩
def timeD (n : Nat) (l : List UInt8) : Option T6 :=
  if l.length = n + 11 ∧ bt l (n + 10) = 90 ∧ digs (l.take n) = true ∧ digs (chunk l n 1) = true ∧ digs (chunk l n 2) = true ∧ digs (chunk l n 3) = true ∧ digs (chunk l n 4) = true ∧ digs (chunk l n 5) = true ∧ okT (tR n l) = true then some (tR n l) else none

theorem fifteen {l : List UInt8} (h : l.length = 15) : ∃ a0 a1 a2 a3 a4 a5 a6 a7 a8 a9 a10 a11 a12 a13 a14, l = [a0, a1, a2, a3, a4, a5, a6, a7, a8, a9, a10, a11, a12, a13, a14] := by
  match l, h with
  | [a0, a1, a2, a3, a4, a5, a6, a7, a8, a9, a10, a11, a12, a13, a14], _ => exact ⟨a0, a1, a2, a3, a4, a5, a6, a7, a8, a9, a10, a11, a12, a13, a14, rfl⟩
theorem thirteen {l : List UInt8} (h : l.length = 13) : ∃ a0 a1 a2 a3 a4 a5 a6 a7 a8 a9 a10 a11 a12, l = [a0, a1, a2, a3, a4, a5, a6, a7, a8, a9, a10, a11, a12] := by
  match l, h with
  | [a0, a1, a2, a3, a4, a5, a6, a7, a8, a9, a10, a11, a12], _ => exact ⟨a0, a1, a2, a3, a4, a5, a6, a7, a8, a9, a10, a11, a12, rfl⟩

theorem timeD_long (l : List UInt8) : timeD 4 l = timeR 24 l := by
  rw [timeR, if_neg (by decide)]
  by_cases h : l.length = 15
  · obtain ⟨a0, a1, a2, a3, a4, a5, a6, a7, a8, a9, a10, a11, a12, a13, a14, rfl⟩ := fifteen h
    have e1 : tR 4 [a0, a1, a2, a3, a4, a5, a6, a7, a8, a9, a10, a11, a12, a13, a14] = t15 [a0, a1, a2, a3, a4, a5, a6, a7, a8, a9, a10, a11, a12, a13, a14] := rfl
    have e2 : digs ([a0, a1, a2, a3, a4, a5, a6, a7, a8, a9, a10, a11, a12, a13, a14].take 14) = (digs [a0, a1, a2, a3] && digs [a4, a5] && digs [a6, a7] && digs [a8, a9] && digs [a10, a11] && digs [a12, a13]) := by
      rw [show [a0, a1, a2, a3, a4, a5, a6, a7, a8, a9, a10, a11, a12, a13, a14].take 14 = [a0, a1, a2, a3] ++ [a4, a5] ++ [a6, a7] ++ [a8, a9] ++ [a10, a11] ++ [a12, a13] from rfl]
      simp only [digs_append]
    rw [timeD, time15, e1, e2]
    have c0 : [a0, a1, a2, a3, a4, a5, a6, a7, a8, a9, a10, a11, a12, a13, a14].take 4 = [a0, a1, a2, a3] := rfl
    have c1 : chunk [a0, a1, a2, a3, a4, a5, a6, a7, a8, a9, a10, a11, a12, a13, a14] 4 1 = [a4, a5] := rfl
    have c2 : chunk [a0, a1, a2, a3, a4, a5, a6, a7, a8, a9, a10, a11, a12, a13, a14] 4 2 = [a6, a7] := rfl
    have c3 : chunk [a0, a1, a2, a3, a4, a5, a6, a7, a8, a9, a10, a11, a12, a13, a14] 4 3 = [a8, a9] := rfl
    have c4 : chunk [a0, a1, a2, a3, a4, a5, a6, a7, a8, a9, a10, a11, a12, a13, a14] 4 4 = [a10, a11] := rfl
    have c5 : chunk [a0, a1, a2, a3, a4, a5, a6, a7, a8, a9, a10, a11, a12, a13, a14] 4 5 = [a12, a13] := rfl
    rw [c0, c1, c2, c3, c4, c5]
    generalize t15 [a0, a1, a2, a3, a4, a5, a6, a7, a8, a9, a10, a11, a12, a13, a14] = t
    cases digs [a0, a1, a2, a3] <;> cases digs [a4, a5] <;> cases digs [a6, a7] <;> cases digs [a8, a9] <;> cases digs [a10, a11] <;> cases digs [a12, a13] <;> cases okT t <;> simp
  · rw [timeD, time15, if_neg (fun x => h x.1), if_neg (fun x => h x.1)]
theorem timeD_short (l : List UInt8) : timeD 2 l = timeR 23 l := by
  rw [timeR, if_pos rfl]
  by_cases h : l.length = 13
  · rw [if_pos h]
    obtain ⟨a0, a1, a2, a3, a4, a5, a6, a7, a8, a9, a10, a11, a12, rfl⟩ := thirteen h
    have b0 : bt [a0, a1, a2, a3, a4, a5, a6, a7, a8, a9, a10, a11, a12] 0 = a0.toNat := rfl
    obtain ⟨p, q, hpq, hp, hq, hn⟩ : ∃ p q, cent [a0, a1, a2, a3, a4, a5, a6, a7, a8, a9, a10, a11, a12] = [p, q] ∧ isDig p = true ∧ isDig q = true ∧ (digs [a0, a1] = true → num [p, q, a0, a1] = yearR 2 (num [a0, a1])) := by
      rw [cent, b0]
      have hh : ∀ c : UInt8, isDig c = true → 48 ≤ c.toNat ∧ c.toNat ≤ 57 := fun c hc => by simpa [isDig] using hc
      by_cases h53 : 53 ≤ a0.toNat
      · rw [if_pos h53]
        refine ⟨49, 57, rfl, rfl, rfl, fun hd => ?_⟩
        simp only [digs, List.all_cons, List.all_nil, Bool.and_true, Bool.and_eq_true] at hd
        have g0 := hh _ hd.1
        have g1 := hh _ hd.2
        rw [yearR, if_pos rfl, num2, if_pos (by omega)]
        show ((((0 * 10 + 1) * 10 + 9) * 10 + (a0.toNat - 48)) * 10 + (a1.toNat - 48)) = _
        omega
      · rw [if_neg h53]
        refine ⟨50, 48, rfl, rfl, rfl, fun hd => ?_⟩
        simp only [digs, List.all_cons, List.all_nil, Bool.and_true, Bool.and_eq_true] at hd
        have g0 := hh _ hd.1
        have g1 := hh _ hd.2
        rw [yearR, if_pos rfl, num2, if_neg (by omega)]
        show ((((0 * 10 + 2) * 10 + 0) * 10 + (a0.toNat - 48)) * 10 + (a1.toNat - 48)) = _
        omega
    rw [hpq]
    have hl : [p, q] ++ [a0, a1, a2, a3, a4, a5, a6, a7, a8, a9, a10, a11, a12] = [p, q, a0, a1, a2, a3, a4, a5, a6, a7, a8, a9, a10, a11, a12] := rfl
    rw [hl]
    have e2 : digs ([p, q, a0, a1, a2, a3, a4, a5, a6, a7, a8, a9, a10, a11, a12].take 14) = (digs [a0, a1] && digs [a2, a3] && digs [a4, a5] && digs [a6, a7] && digs [a8, a9] && digs [a10, a11]) := by
      rw [show [p, q, a0, a1, a2, a3, a4, a5, a6, a7, a8, a9, a10, a11, a12].take 14 = [p, q] ++ [a0, a1] ++ [a2, a3] ++ [a4, a5] ++ [a6, a7] ++ [a8, a9] ++ [a10, a11] from rfl]
      simp only [digs_append]
      have : digs [p, q] = true := by simp [digs, hp, hq]
      rw [this, Bool.true_and]
    have c0 : [a0, a1, a2, a3, a4, a5, a6, a7, a8, a9, a10, a11, a12].take 2 = [a0, a1] := rfl
    have c1 : chunk [a0, a1, a2, a3, a4, a5, a6, a7, a8, a9, a10, a11, a12] 2 1 = [a2, a3] := rfl
    have c2 : chunk [a0, a1, a2, a3, a4, a5, a6, a7, a8, a9, a10, a11, a12] 2 2 = [a4, a5] := rfl
    have c3 : chunk [a0, a1, a2, a3, a4, a5, a6, a7, a8, a9, a10, a11, a12] 2 3 = [a6, a7] := rfl
    have c4 : chunk [a0, a1, a2, a3, a4, a5, a6, a7, a8, a9, a10, a11, a12] 2 4 = [a8, a9] := rfl
    have c5 : chunk [a0, a1, a2, a3, a4, a5, a6, a7, a8, a9, a10, a11, a12] 2 5 = [a10, a11] := rfl
    have z1 : bt [a0, a1, a2, a3, a4, a5, a6, a7, a8, a9, a10, a11, a12] (2 + 10) = bt [p, q, a0, a1, a2, a3, a4, a5, a6, a7, a8, a9, a10, a11, a12] 14 := rfl
    have e1 : digs [a0, a1] = true → tR 2 [a0, a1, a2, a3, a4, a5, a6, a7, a8, a9, a10, a11, a12] = t15 [p, q, a0, a1, a2, a3, a4, a5, a6, a7, a8, a9, a10, a11, a12] := by
      intro hd
      have := hn hd
      show T6.mk (yearR 2 (num [a0, a1])) _ _ _ _ _ = T6.mk (num [p, q, a0, a1]) _ _ _ _ _
      rw [this]
      rfl
    rw [timeD, time15, e2, c0, c1, c2, c3, c4, c5, z1]
    generalize bt [p, q, a0, a1, a2, a3, a4, a5, a6, a7, a8, a9, a10, a11, a12] 14 = z
    cases hd : digs [a0, a1]
    · simp
    · rw [e1 hd]
      generalize t15 [p, q, a0, a1, a2, a3, a4, a5, a6, a7, a8, a9, a10, a11, a12] = t
      cases digs [a2, a3] <;> cases digs [a4, a5] <;> cases digs [a6, a7] <;> cases digs [a8, a9] <;> cases digs [a10, a11] <;> cases okT t <;> simp
  · rw [if_neg h, timeD, if_neg (fun x => h (by omega))]

/-! ### Dates that are written. -/
def two (n : Nat) : List UInt8 := [UInt8.ofNat (48 + n / 10 % 10), UInt8.ofNat (48 + n % 10)]
theorem two_digs (n : Nat) : digs (two n) = true := by
  have h1 : (UInt8.ofNat (48 + n / 10 % 10)).toNat = 48 + n / 10 % 10 := by rw [UInt8.toNat_ofNat']; omega
  have h2 : (UInt8.ofNat (48 + n % 10)).toNat = 48 + n % 10 := by rw [UInt8.toNat_ofNat']; omega
  simp only [two, digs, List.all_cons, List.all_nil, isDig, h1, h2, Bool.and_true, Bool.and_eq_true, decide_eq_true_eq]
  omega
theorem num_two (l : List UInt8) (n : Nat) : num (l ++ two n) = num l * 100 + n % 100 := by
  have h1 : (UInt8.ofNat (48 + n / 10 % 10)).toNat = 48 + n / 10 % 10 := by rw [UInt8.toNat_ofNat']; omega
  have h2 : (UInt8.ofNat (48 + n % 10)).toNat = 48 + n % 10 := by rw [UInt8.toNat_ofNat']; omega
  rw [show l ++ two n = (l ++ [UInt8.ofNat (48 + n / 10 % 10)]) ++ [UInt8.ofNat (48 + n % 10)] from by simp [two], num_snoc, num_snoc, h1, h2]
  omega
theorem num_two0 (n : Nat) : num (two n) = n % 100 := by
  have := num_two [] n
  simpa [num] using this
/-- A date and a time of day, the last byte. -/
def dateL (C y m d h i s : Nat) (c : UInt8) : List UInt8 := two C ++ two y ++ two m ++ two d ++ two h ++ two i ++ two s ++ [c]
theorem time15_date (C y m d h i s : Nat) (c : UInt8) : time15 (dateL C y m d h i s c) =
    if c.toNat = 90 ∧ okT ⟨C % 100 * 100 + y % 100, m % 100, d % 100, h % 100, i % 100, s % 100⟩ = true then some ⟨C % 100 * 100 + y % 100, m % 100, d % 100, h % 100, i % 100, s % 100⟩ else none := by
  have e : t15 (dateL C y m d h i s c) = ⟨C % 100 * 100 + y % 100, m % 100, d % 100, h % 100, i % 100, s % 100⟩ := by
    show T6.mk (num (two C ++ two y)) (num (two m)) (num (two d)) (num (two h)) (num (two i)) (num (two s)) = _
    simp only [num_two, num_two0]
  have hd : digs ((dateL C y m d h i s c).take 14) = true := by
    show digs (two C ++ two y ++ two m ++ two d ++ two h ++ two i ++ two s) = true
    simp only [digs_append, two_digs, Bool.and_true]
  have hz : bt (dateL C y m d h i s c) 14 = c.toNat := rfl
  have hl : (dateL C y m d h i s c).length = 15 := rfl
  rw [time15, e, hd, hz, hl]
  by_cases h1 : c.toNat = 90
  · by_cases h2 : okT ⟨C % 100 * 100 + y % 100, m % 100, d % 100, h % 100, i % 100, s % 100⟩ = true
    · rw [if_pos ⟨rfl, h1, rfl⟩, if_pos h2, if_pos ⟨h1, h2⟩]
    · rw [if_pos ⟨rfl, h1, rfl⟩, if_neg h2, if_neg (fun x => h2 x.2)]
  · rw [if_neg (fun x => h1 x.2.1), if_neg (fun x => h1 x.1)]
/-- The same, of a year of two digits. -/
theorem time23_date (y m d h i s : Nat) (c : UInt8) : timeR 23 (two y ++ two m ++ two d ++ two h ++ two i ++ two s ++ [c]) = time15 (dateL (if 50 ≤ y % 100 then 19 else 20) y m d h i s c) := by
  have hl : (two y ++ two m ++ two d ++ two h ++ two i ++ two s ++ [c]).length = 13 := rfl
  rw [timeR, if_pos rfl, if_pos hl]
  have hb : bt (two y ++ two m ++ two d ++ two h ++ two i ++ two s ++ [c]) 0 = 48 + y / 10 % 10 := by
    show (UInt8.ofNat (48 + y / 10 % 10)).toNat = _
    rw [UInt8.toNat_ofNat']
    omega
  rw [cent, hb]
  by_cases h5 : 50 ≤ y % 100
  · rw [if_pos (by omega), if_pos h5]
    rfl
  · rw [if_neg (by omega), if_neg h5]
    rfl
end Go.Proofs.YtjdfgjlbmbiihaaDoor
