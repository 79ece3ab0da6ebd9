/-
  Plain laws of heads: what is put is read, whatever stands behind; cut off it is told so.
-/
import Derived.Test.YtjdfgjlbmbiihaaDoorDp
namespace Go.Proofs.YtjdfgjlbmbiihaaDoor
open Go.RowKit

/-- 'b[:k]' of bytes. -/
theorem BR.head2 {w : World} {ok : Nat → Prop} {A : Option Addr} {c k : Nat} {l : List UInt8} (hr : Rd w ok 1 A l.length (bc l)) (hlc : l.length ≤ c) (hk : k ≤ l.length) : BR w ok (.slice A k c) (l.take k) := by
  have h := hr.take (k := k) hk
  rw [Nat.mul_one, bc_take] at h
  have hlen : (l.take k).length = k := by simp; omega
  exact ⟨A, c, by rw [hlen], by omega, by rw [hlen]; exact h⟩

theorem hb_parts {c t : Int} {m : Bool} (h : kindB c t m = true) : ((hb c t m).toNat : Int) / 64 = c ∧ ((hb c t m).toNat : Int) % 32 = t ∧ ((hb c t m).toNat / 32 % 2 == 1) = m := by
  obtain ⟨hc, h0, h1⟩ := kindB_cases h
  have e : (hb c t m).toNat = (c * 64 + t + if m then 32 else 0).toNat := by
    rw [hb, UInt8.toNat_ofNat']
    cases m <;> simp <;> omega
  rw [e]
  cases m
  · refine ⟨by simp; omega, by simp; omega, ?_⟩
    simp
    omega
  · refine ⟨by simp; omega, by simp; omega, ?_⟩
    simp
    omega
theorem hb_top {c t : Int} {m : Bool} (h : kindB c t m = true) : topB (hb c t m) = true := by
  obtain ⟨h1, h2, h3⟩ := hb_parts h
  rw [topB, h1, h2, h3]
  exact h
theorem hb_hd {c t : Int} {m : Bool} (h : kindB c t m = true) (n : Nat) : hdB (hb c t m) n = (c, t, m, (n : Int)) := by
  obtain ⟨h1, h2, h3⟩ := hb_parts h
  rw [hdB, h1, h2, h3]

theorem lenB_len (N : Nat) : 1 ≤ (lenB N).length ∧ (lenB N).length ≤ 4 := by
  unfold lenB
  split
  · simp
  split
  · simp
  split
  · simp [beB_length]
  · simp [beB_length]

theorem be_front (n x : Nat) (r : List UInt8) (h : x < 256 ^ n) : be ((beB n x ++ r).take n) = x := by
  rw [List.take_append_of_le_length (by rw [beB_length]; omega), List.take_of_length_le (by rw [beB_length]; omega), be_beB, Nat.mod_eq_of_lt h]

theorem rd_put {c t : Int} {m : Bool} {N : Nat} (h : kindB c t m = true) (hN : N ≤ 16777215) (r : List UInt8) :
    rd (hb c t m :: (lenB N ++ r)) = ((c, t, m, (N : Int)), (((lenB N).length + 1 : Nat) : Int), 0) := by
  have htop := hb_top h
  unfold lenB
  by_cases h1 : N < 128
  · rw [if_pos h1]
    have e : (UInt8.ofNat N).toNat = N := by rw [UInt8.toNat_ofNat']; omega
    show rd (hb c t m :: UInt8.ofNat N :: r) = _
    rw [rd, if_pos htop, e, if_pos h1, hb_hd h]
    rfl
  rw [if_neg h1]
  by_cases h2 : N < 256
  · rw [if_pos h2]
    have e : be ([UInt8.ofNat N] ++ r |>.take 1) = N := by
      have := be_front 1 N r (by simpa using h2)
      have e2 : beB 1 N = [UInt8.ofNat N] := rfl
      rwa [e2] at this
    show rd (hb c t m :: 129 :: ([UInt8.ofNat N] ++ r)) = _
    rw [rd_long (k := 1) htop rfl (by omega) (by omega) (by simp) e, if_neg (by simp; omega), hb_hd h]
    rfl
  rw [if_neg h2]
  by_cases h3 : N < 65536
  · rw [if_pos h3]
    show rd (hb c t m :: 130 :: (beB 2 N ++ r)) = _
    rw [rd_long (k := 2) htop rfl (by omega) (by omega) (by simp [beB_length]) (be_front 2 N r (by simpa using h3)), if_neg (by simp; omega), hb_hd h]
    simp [beB_length]
  · rw [if_neg h3]
    show rd (hb c t m :: 131 :: (beB 3 N ++ r)) = _
    rw [rd_long (k := 3) htop rfl (by omega) (by omega) (by simp [beB_length]) (be_front 3 N r (by simp; omega)), if_neg (by simp; omega), hb_hd h]
    simp [beB_length]

theorem rd_cut2 {b c : UInt8} {k : Nat} (htop : topB b = true) (hc : c.toNat = 128 + k) (h1 : 1 ≤ k) (h3 : k ≤ 3) (u : List UInt8) (hu : u.length < k) : rd (b :: c :: u) = (hd0, ((u.length + 2 : Nat) : Int), 4) := by
  rw [rd, if_pos htop, if_neg (by omega), if_neg (by omega), if_pos (by omega)]
  rfl

/-- Cut off. -/
theorem rd_cut {c t : Int} {m : Bool} {N : Nat} (h : kindB c t m = true) (i : Nat) (hi : i < (lenB N).length + 1) : rd ((hb c t m :: lenB N).take i) = (hd0, (i : Int), 4) := by
  have htop := hb_top h
  rcases i with _ | _ | i
  · rfl
  · simp only [List.take_succ_cons, List.take_zero]
    rw [rd, if_pos htop]
    rfl
  · revert hi
    unfold lenB
    by_cases h1 : N < 128
    · rw [if_pos h1]; intro hi; exact absurd hi (by simp)
    rw [if_neg h1]
    by_cases h2 : N < 256
    · rw [if_pos h2]
      intro hi
      obtain rfl : i = 0 := by simp at hi; omega
      simp only [List.take_succ_cons, List.take_zero]
      rw [rd_cut2 (k := 1) htop rfl (by omega) (by omega) [] (by simp)]
      rfl
    rw [if_neg h2]
    by_cases h3 : N < 65536
    · rw [if_pos h3]
      intro hi
      simp [beB_length] at hi
      simp only [List.take_succ_cons]
      rw [rd_cut2 (k := 2) htop rfl (by omega) (by omega) _ (by simp [beB_length]; omega)]
      simp [beB_length]
      omega
    · rw [if_neg h3]
      intro hi
      simp [beB_length] at hi
      simp only [List.take_succ_cons]
      rw [rd_cut2 (k := 3) htop rfl (by omega) (by omega) _ (by simp [beB_length]; omega)]
      simp [beB_length]
      omega
end Go.Proofs.YtjdfgjlbmbiihaaDoor
