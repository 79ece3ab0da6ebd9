/-
  Numbers out of bytes, the highest first: plain Lean.
-/
import Derived.Laws.BitsAllLaws
import Derived.Laws.Bits64
namespace Go.Proofs.Ytgndammlhljfjaa

def be (l : List UInt8) : Nat := l.foldl (fun x b => x * 256 + b.toNat) 0
theorem be_snoc (l : List UInt8) (b : UInt8) : be (l ++ [b]) = be l * 256 + b.toNat := by simp [be]
theorem be_lt (l : List UInt8) : be l < 256 ^ l.length := by
  obtain ⟨m, rfl⟩ : ∃ m : List UInt8, l = m.reverse := ⟨l.reverse, by simp⟩
  induction m with
  | nil => simp [be]
  | cons b m ih =>
    rw [List.reverse_cons, be_snoc, List.length_append, List.length_singleton, Nat.pow_succ]
    have := b.toNat_lt
    omega
theorem be_take (l : List UInt8) (k : Nat) (h : k < l.length) : be (l.take (k + 1)) = be (l.take k) * 256 + l[k].toNat := by
  rw [List.take_succ_eq_append_getElem h, be_snoc]

theorem be_small (l : List UInt8) (k : Nat) (hk : k < l.length) (h8 : l.length ≤ 8) : be (l.take k) < 72057594037927936 := by
  have h := be_lt (l.take k)
  have h1 : (l.take k).length ≤ 7 := by simp; omega
  have h2 : 256 ^ (l.take k).length ≤ 256 ^ 7 := Nat.pow_le_pow_right (by omega) h1
  omega
theorem or_byte (x b : Nat) (hb : b < 256) (hx : x < 72057594037927936) : bits .or .u64 (IntKind.u64.wrap ((x : Int) * 256)) (b : Int) = ((x * 256 + b : Nat) : Int) := by
  rw [IntKind.wrap_u64]
  have e : ((x : Int) * 256) % 18446744073709551616 = ((x * 256 : Nat) : Int) := by omega
  rw [e, u64_or_nat _ _ (by omega) (by omega)]
  have := Nat.two_pow_add_eq_or_of_lt (i := 8) (b := b) (by omega) x
  rw [show x * 256 = 2 ^ 8 * x from by omega, this]

/-- May a number have so many bytes? -/
def szB (n : Int) : Bool := decide (1 ≤ n ∧ n ≤ 4) || decide (n = 8)
theorem szB_true {n : Int} (h : szB n = true) : 1 ≤ n ∧ n ≤ 8 ∧ (4 < n → n = 8) := by
  simp only [szB, Bool.or_eq_true, decide_eq_true_eq] at h
  omega
theorem szB_false {n : Int} (h : szB n = false) : n < 1 ∨ (4 < n ∧ n ≠ 8) := by
  simp only [szB, Bool.or_eq_false_iff, decide_eq_false_iff_not] at h
  omega

end Go.Proofs.Ytgndammlhljfjaa
