/-
  Plain laws of heads: what is read is put as those bytes; what is put is read.
-/
import Derived.Test.YtjdfgjlbmbiihaaDoorDrr1
namespace Go.Proofs.YtjdfgjlbmbiihaaDoor
open Go.RowKit

theorem lenB_long {c : UInt8} {ps : List UInt8} {k : Nat} (h1 : 1 ≤ k) (h3 : k ≤ 3) (hl : ps.length = k) (hc : c.toNat = 128 + k) (hb : 128 ≤ be ps) (hd : be ps / 256 ^ (k - 1) ≠ 0) : lenB (be ps) = c :: ps := by
  have h := beB_be ps
  rw [hl] at h
  have hlt := be_lt ps
  rw [hl] at hlt
  have hk : k = 1 ∨ k = 2 ∨ k = 3 := by omega
  rcases hk with rfl | rfl | rfl
  · have hcc : c = 129 := UInt8.toNat_inj.1 (by rw [hc]; rfl)
    rw [lenB, if_neg (by omega), if_pos (by omega), hcc]
    exact congrArg _ h
  · have hcc : c = 130 := UInt8.toNat_inj.1 (by rw [hc]; rfl)
    simp at hd hlt
    rw [lenB, if_neg (by omega), if_neg (by omega), if_pos (by omega), hcc]
    exact congrArg _ h
  · have hcc : c = 131 := UInt8.toNat_inj.1 (by rw [hc]; rfl)
    simp at hd hlt
    rw [lenB, if_neg (by omega), if_neg (by omega), if_neg (by omega), hcc]
    exact congrArg _ h

/-- What is read: an error without a head, or a head that is put as those bytes. -/
theorem rd_back (l : List UInt8) (h : Int × Int × Bool × Int) (k er : Int) (hq : rd l = (h, k, er)) :
    (er ≠ 0 ∧ h = hd0 ∧ 0 ≤ k ∧ k ≤ l.length) ∨ (er = 0 ∧ ∃ K : Nat, k = K ∧ K ≤ l.length ∧ pt h.1 h.2.1 h.2.2.1 h.2.2.2 = (l.take K, 0)) := by
  match l, hq with
  | [], hq =>
    simp only [rd, Prod.mk.injEq] at hq
    obtain ⟨rfl, rfl, rfl⟩ := hq
    exact .inl ⟨by decide, rfl, by decide, by decide⟩
  | [b], hq =>
    left
    rw [rd] at hq
    split at hq
    all_goals
      simp only [Prod.mk.injEq] at hq
      obtain ⟨rfl, rfl, rfl⟩ := hq
      exact ⟨by decide, rfl, by decide, by simp⟩
  | b :: c :: u, hq =>
    cases htop : topB b
    · rw [rd_bad htop] at hq
      simp only [Prod.mk.injEq] at hq
      obtain ⟨rfl, rfl, rfl⟩ := hq
      exact .inl ⟨by decide, rfl, by decide, by simp; omega⟩
    rcases Nat.lt_or_ge c.toNat 128 with h1 | h1
    · rw [rd, if_pos htop, if_pos h1] at hq
      simp only [Prod.mk.injEq] at hq
      obtain ⟨rfl, rfl, rfl⟩ := hq
      refine .inr ⟨rfl, 2, rfl, by simp, ?_⟩
      rw [hdB]
      simp only
      rw [pt_top htop _ (by omega), lenB, if_pos h1]
      simp
    by_cases h2 : c.toNat = 128 ∨ 131 < c.toNat
    · rw [rd, if_pos htop, if_neg (by omega), if_pos h2] at hq
      simp only [Prod.mk.injEq] at hq
      obtain ⟨rfl, rfl, rfl⟩ := hq
      exact .inl ⟨by decide, rfl, by decide, by simp; omega⟩
    obtain ⟨n, hn⟩ : ∃ n, c.toNat = 128 + n := ⟨c.toNat - 128, by omega⟩
    by_cases h3 : u.length < n
    · rw [rd, if_pos htop, if_neg (by omega), if_neg h2, if_pos (by omega)] at hq
      simp only [Prod.mk.injEq] at hq
      obtain ⟨rfl, rfl, rfl⟩ := hq
      exact .inl ⟨by decide, rfl, by omega, by simp; omega⟩
    rw [rd_long htop hn (by omega) (by omega) (by omega) rfl] at hq
    by_cases h4 : be (u.take n) < 128 ∨ be (u.take n) / 256 ^ (n - 1) = 0
    · rw [if_pos h4] at hq
      simp only [Prod.mk.injEq] at hq
      obtain ⟨rfl, rfl, rfl⟩ := hq
      exact .inl ⟨by decide, rfl, by decide, by simp; omega⟩
    · rw [if_neg h4] at hq
      simp only [Prod.mk.injEq] at hq
      obtain ⟨rfl, rfl, rfl⟩ := hq
      refine .inr ⟨rfl, n + 2, by omega, by simp; omega, ?_⟩
      have hlt : (u.take n).length = n := by simp; omega
      have hbl := be_lt (u.take n)
      rw [hlt] at hbl
      have hb3 : 256 ^ n ≤ 256 ^ 3 := Nat.pow_le_pow_right (by omega) (by omega)
      have e3 : (256 : Nat) ^ 3 = 16777216 := by decide
      rw [hdB]
      simp only
      rw [pt_top htop _ (by omega), lenB_long (k := n) (by omega) (by omega) hlt hn (by omega) (by omega)]
      simp
end Go.Proofs.YtjdfgjlbmbiihaaDoor
