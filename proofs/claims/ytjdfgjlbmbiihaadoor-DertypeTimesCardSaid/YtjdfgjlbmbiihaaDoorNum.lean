/-
  Numbers out of bytes, the highest first: plain Lean.
-/
import Derived.Laws.BitsAllLaws
import Derived.Laws.Bits64
import Derived.RowKit
namespace Go.Proofs.YtjdfgjlbmbiihaaDoor

def be (l : List UInt8) : Nat := l.foldl (fun x b => x * 256 + b.toNat) 0
theorem be_snoc (l : List UInt8) (b : UInt8) : be (l ++ [b]) = be l * 256 + b.toNat := by simp [be]
theorem be_lt (l : List UInt8) : be l < 256 ^ l.length := by
  obtain ⟨m, rfl⟩ : ∃ m : List UInt8, l = m.reverse := ⟨l.reverse, by simp⟩
  induction m with
  | nil => simp [be]
  | cons b m ih =>
    rw [List.reverse_cons, be_snoc, List.length_append, List.length_singleton, Nat.pow_succ]
    have := b.toNat_lt
    omega
theorem be_take (l : List UInt8) (k : Nat) (h : k < l.length) : be (l.take (k + 1)) = be (l.take k) * 256 + l[k].toNat := by
  rw [List.take_succ_eq_append_getElem h, be_snoc]

theorem be_small (l : List UInt8) (k : Nat) (hk : k < l.length) (h8 : l.length ≤ 8) : be (l.take k) < 72057594037927936 := by
  have h := be_lt (l.take k)
  have h1 : (l.take k).length ≤ 7 := by simp; omega
  have h2 : 256 ^ (l.take k).length ≤ 256 ^ 7 := Nat.pow_le_pow_right (by omega) h1
  omega
theorem or_byte (x b : Nat) (hb : b < 256) (hx : x < 72057594037927936) : bits .or .u64 (IntKind.u64.wrap ((x : Int) * 256)) (b : Int) = ((x * 256 + b : Nat) : Int) := by
  rw [IntKind.wrap_u64]
  have e : ((x : Int) * 256) % 18446744073709551616 = ((x * 256 : Nat) : Int) := by omega
  rw [e, u64_or_nat _ _ (by omega) (by omega)]
  have := Nat.two_pow_add_eq_or_of_lt (i := 8) (b := b) (by omega) x
  rw [show x * 256 = 2 ^ 8 * x from by omega, this]

/-- May a number have so many bytes? -/
def szB (n : Int) : Bool := decide (1 ≤ n ∧ n ≤ 4) || decide (n = 8)
theorem szB_true {n : Int} (h : szB n = true) : 1 ≤ n ∧ n ≤ 8 ∧ (4 < n → n = 8) := by
  simp only [szB, Bool.or_eq_true, decide_eq_true_eq] at h
  omega
theorem szB_false {n : Int} (h : szB n = false) : n < 1 ∨ (4 < n ∧ n ≠ 8) := by
  simp only [szB, Bool.or_eq_false_iff, decide_eq_false_iff_not] at h
  omega

open Go.RowKit in
/-- 'int(uint(n) % (1 << 40))' is from 0 on, below 2 to the power of 40. -/
theorem mod_base (n : Int) : ∃ j : Nat, wrap64 ((IntKind.u64.wrap n).tmod 1099511627776) = (j : Int) ∧ j < 1099511627776 := by
  rw [IntKind.wrap_u64]
  have h0 : 0 ≤ n % 18446744073709551616 := Int.emod_nonneg _ (by omega)
  rw [Int.tmod_eq_emod_of_nonneg h0]
  refine ⟨((n % 18446744073709551616) % 1099511627776).toNat, ?_, by omega⟩
  unfold wrap64
  omega
open Go.RowKit in
/-- 'int(uint(n) % uint(m + 1))' is from 0 to m. -/
theorem mod_place (n : Int) (m : Nat) (hm : m ≤ 140737488351232) : ∃ j : Nat, wrap64 ((IntKind.u64.wrap n).tmod ((m : Int) + 1)) = (j : Int) ∧ j ≤ m := by
  rw [IntKind.wrap_u64]
  have h0 : 0 ≤ n % 18446744073709551616 := Int.emod_nonneg _ (by omega)
  rw [Int.tmod_eq_emod_of_nonneg h0]
  have h1 := Int.emod_nonneg (n % 18446744073709551616) (show ((m : Int) + 1) ≠ 0 by omega)
  have h2 := Int.emod_lt_of_pos (n % 18446744073709551616) (show (0 : Int) < (m : Int) + 1 by omega)
  refine ⟨((n % 18446744073709551616) % ((m : Int) + 1)).toNat, ?_, by omega⟩
  generalize (n % 18446744073709551616) % ((m : Int) + 1) = x at h1 h2 ⊢
  unfold wrap64
  omega

/-- A number's bytes, so many, the highest first. -/
def beB : Nat → Nat → List UInt8
  | 0, _ => []
  | n + 1, x => beB n (x / 256) ++ [UInt8.ofNat x]
theorem beB_length (n x : Nat) : (beB n x).length = n := by
  induction n generalizing x with
  | zero => rfl
  | succ n ih => simp [beB, ih]
theorem be_beB (n x : Nat) : be (beB n x) = x % 256 ^ n := by
  induction n generalizing x with
  | zero => simp [beB, be, Nat.mod_one]
  | succ n ih =>
    have e : 256 ^ (n + 1) = 256 * 256 ^ n := by rw [Nat.pow_succ, Nat.mul_comm]
    rw [beB, be_snoc, ih, UInt8.toNat_ofNat', e, Nat.mod_mul]
    omega
theorem beB_be (l : List UInt8) : beB l.length (be l) = l := by
  obtain ⟨m, rfl⟩ : ∃ m : List UInt8, l = m.reverse := ⟨l.reverse, by simp⟩
  induction m with
  | nil => rfl
  | cons b m ih =>
    rw [List.reverse_cons, be_snoc, List.length_append, List.length_singleton, beB]
    have hb := b.toNat_lt
    have h1 : (be m.reverse * 256 + b.toNat) / 256 = be m.reverse := by omega
    rw [h1, ih]
    congr 2
    apply UInt8.toNat_inj.1
    rw [UInt8.toNat_ofNat']
    omega
theorem beB_drop (n m x : Nat) : (beB (n + m) x).drop n = beB m x := by
  induction m generalizing x with
  | zero => rw [Nat.add_zero, List.drop_of_length_le (by rw [beB_length]; omega)]; rfl
  | succ m ih =>
    rw [← Nat.add_assoc, beB, beB, List.drop_append_of_le_length (by rw [beB_length]; omega), ih]
theorem beB_mod (n x : Nat) : beB n (x % 256 ^ n) = beB n x := by
  have h := beB_be (beB n x)
  rw [beB_length, be_beB] at h
  exact h

end Go.Proofs.YtjdfgjlbmbiihaaDoor
