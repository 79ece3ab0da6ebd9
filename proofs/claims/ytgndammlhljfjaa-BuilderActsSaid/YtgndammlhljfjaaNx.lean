/-
  The next bytes of a list: plain Lean.
-/
import Derived.Test.YtgndammlhljfjaaNum
namespace Go.Proofs.Ytgndammlhljfjaa

/-- The next n bytes, the error. -/
def nx (l : List UInt8) (n : Int) : List UInt8 × Int := if n < 0 then ([], 2) else if (l.length : Int) < n then ([], 4) else (l.take n.toNat, 0)

theorem nx_neg {l : List UInt8} {n : Int} (h : n < 0) : nx l n = ([], 2) := by rw [nx, if_pos h]
theorem nx_short {l : List UInt8} {n : Int} (h0 : 0 ≤ n) (h : (l.length : Int) < n) : nx l n = ([], 4) := by rw [nx, if_neg (by omega), if_pos h]
theorem nx_ok {l : List UInt8} {n : Int} (h0 : 0 ≤ n) (h : n ≤ l.length) : nx l n = (l.take n.toNat, 0) := by rw [nx, if_neg (by omega), if_neg (by omega)]
theorem nx_cases (l : List UInt8) (n : Int) : ((nx l n).2 = 0 ∧ 0 ≤ n ∧ n ≤ l.length ∧ (nx l n).1 = l.take n.toNat) ∨ ((nx l n).2 ≠ 0 ∧ (n < 0 ∨ (l.length : Int) < n) ∧ (nx l n).1 = []) := by
  rcases Int.lt_or_le n 0 with h | h
  · rw [nx_neg h]
    exact .inr ⟨by simp, .inl h, rfl⟩
  · rcases Int.lt_or_le (l.length : Int) n with h1 | h1
    · rw [nx_short h h1]
      exact .inr ⟨by simp, .inr h1, rfl⟩
    · rw [nx_ok h h1]
      exact .inl ⟨rfl, h, h1, rfl⟩
theorem nx_pre (l : List UInt8) (n : Int) : (nx l n).1 = l.take (nx l n).1.length := by
  unfold nx
  split
  · simp
  · split
    · simp
    · simp
theorem nx_len (l : List UInt8) (n : Int) : (nx l n).1.length ≤ l.length := by
  rw [nx_pre]; simp; omega

theorem nx_le (l : List UInt8) (n : Int) : (nx l n).1.length ≤ n.toNat := by
  unfold nx
  split
  · simp
  · split
    · simp
    · simp; omega

def nn (l : List UInt8) (n : Int) : List UInt8 × Int := if szB n = true then nx l n else ([], 2)

end Go.Proofs.Ytgndammlhljfjaa
