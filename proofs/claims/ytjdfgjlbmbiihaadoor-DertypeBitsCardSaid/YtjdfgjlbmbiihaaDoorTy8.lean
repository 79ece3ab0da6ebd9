/-
  A number's bytes, as few as it needs: the walk of law10's 'bytes'; what is told of such bytes.
-/
import Derived.Test.YtjdfgjlbmbiihaaDoorTy6
namespace Go.Proofs.YtjdfgjlbmbiihaaDoor
open Go.RowKit

def b8 (x : Int) : UInt8 := UInt8.ofNat (x % 256).toNat
theorem b8_nat (x : Int) : (b8 x).toNat = (x % 256).toNat := by
  rw [b8, UInt8.toNat_ofNat']
  omega
def pre8 : Nat → Int → List UInt8
  | 0, _ => []
  | f + 1, x => if 127 < x ∨ x < -128 then pre8 f (x / 256) ++ [b8 (x / 256)] else []
def num8 (f : Nat) (x : Int) : List UInt8 := pre8 f x ++ [b8 x]
theorem num8_succ (f : Nat) (x : Int) : num8 (f + 1) x = if 127 < x ∨ x < -128 then num8 f (x / 256) ++ [b8 x] else [b8 x] := by
  unfold num8
  rw [pre8]
  split <;> simp
theorem num8_len (f : Nat) (x : Int) : 1 ≤ (num8 f x).length ∧ (num8 f x).length ≤ f + 1 := by
  induction f generalizing x with
  | zero => simp [num8, pre8]
  | succ f ih =>
    rw [num8_succ]
    split
    · have := ih (x / 256)
      simp
      omega
    · simp
/-- The first byte's high bit is the sign. -/
theorem num8_head (f : Nat) (x : Int) (h0 : -(128 * 256 ^ f) ≤ x) (h1 : x < 128 * 256 ^ f) : ∃ b t, num8 f x = b :: t ∧ (128 ≤ b.toNat ↔ x < 0) := by
  induction f generalizing x with
  | zero =>
    refine ⟨b8 x, [], by simp [num8, pre8], ?_⟩
    rw [b8_nat]
    simp at h0 h1
    omega
  | succ f ih =>
    rw [num8_succ]
    split
    · obtain ⟨b, t, e, hb⟩ := ih (x / 256) (by rw [Int.pow_succ] at h0; omega) (by rw [Int.pow_succ] at h1; omega)
      refine ⟨b, t ++ [b8 x], by rw [e]; rfl, ?_⟩
      rw [hb]
      omega
    · refine ⟨b8 x, [], rfl, ?_⟩
      rw [b8_nat]
      omega
theorem num8_int (f : Nat) (x : Int) (h0 : -(128 * 256 ^ f) ≤ x) (h1 : x < 128 * 256 ^ f) : intB (num8 f x) = true := by
  induction f generalizing x with
  | zero => rfl
  | succ f ih =>
    rw [num8_succ]
    split
    · have hi := ih (x / 256) (by rw [Int.pow_succ] at h0; omega) (by rw [Int.pow_succ] at h1; omega)
      rename_i hx
      match hm : num8 f (x / 256), hi with
      | [], hi => simp [intB] at hi
      | [c], _ =>
        have hc : c = b8 (x / 256) := by
          have := congrArg List.getLast? hm
          simpa [num8] using this.symm
        have hr : -128 ≤ x / 256 ∧ x / 256 ≤ 127 := by
          cases f with
          | zero => simp at h0 h1; omega
          | succ f =>
            rw [num8_succ] at hm
            split at hm
            · have := congrArg List.length hm
              have h2 := (num8_len f (x / 256 / 256)).1
              simp at this
              rw [this] at h2
              simp at h2
            · omega
        show intB [c, b8 x] = true
        rw [intB, hc, b8_nat, b8_nat, decide_eq_false (by omega), decide_eq_false (by omega)]
        rfl
      | c :: d :: t, hi => exact hi
    · rfl
theorem num8_ahead (f : Nat) (x : Int) (h0 : -(128 * 256 ^ f) ≤ x) (h1 : x < 128 * 256 ^ f) (a : UInt8) (ha : a.toNat = if x < 0 then 255 else 0) : intB (a :: num8 f x) = false := by
  obtain ⟨b, t, e, hb⟩ := num8_head f x h0 h1
  have := b.toNat_lt
  rw [e, intB, ha]
  split <;> rename_i hx
  · have : 128 ≤ b.toNat := hb.2 hx
    rw [decide_eq_true (p := 255 * 2 + b.toNat / 128 = 511) (by omega)]
    simp
  · have : ¬ 128 ≤ b.toNat := fun h => hx (hb.1 h)
    rw [decide_eq_true (p := 0 * 2 + b.toNat / 128 = 0) (by omega)]
    simp
theorem sgn_snoc (l : List UInt8) (b : UInt8) (hl : 1 ≤ l.length) : sgn (l ++ [b]).length (be (l ++ [b])) = sgn l.length (be l) * 256 + b.toNat := by
  have hlt := be_lt l
  have hb := b.toNat_lt
  have e : be (l ++ [b]) = be l * 256 + b.toNat := be_snoc l b
  have e2 : (l ++ [b]).length = l.length + 1 := by simp
  obtain ⟨k, hk⟩ : ∃ k, l.length = k + 1 := ⟨l.length - 1, by omega⟩
  rw [e, e2, hk, sgn, sgn, Nat.pow_succ, Nat.pow_succ]
  obtain ⟨P, hP⟩ : ∃ P, 256 ^ k = P := ⟨_, rfl⟩
  rw [hP]
  split <;> split <;> omega
theorem num8_sgn (f : Nat) (x : Int) (h0 : -(128 * 256 ^ f) ≤ x) (h1 : x < 128 * 256 ^ f) : sgn (num8 f x).length (be (num8 f x)) = x := by
  have one : ∀ y : Int, -128 ≤ y → y ≤ 127 → sgn [b8 y].length (be [b8 y]) = y := by
    intro y g0 g1
    have e : be [b8 y] = (b8 y).toNat := by simp [be]
    rw [e, b8_nat, sgn]
    simp
    split <;> omega
  induction f generalizing x with
  | zero =>
    simp at h0 h1
    exact one x (by omega) (by omega)
  | succ f ih =>
    rw [num8_succ]
    split
    · rw [sgn_snoc _ _ (num8_len f (x / 256)).1, ih (x / 256) (by rw [Int.pow_succ] at h0; omega) (by rw [Int.pow_succ] at h1; omega), b8_nat]
      omega
    · exact one x (by omega) (by omega)
end Go.Proofs.YtjdfgjlbmbiihaaDoor
