/-
  Chapter 10's examples; a number laid seven bits a byte.
-/
import Derived.Test.YtjdfgjlbmbiihaaDoorTy4
import Derived.Test.YtjdfgjlbmbiihaaDoorTy5
namespace Go.Proofs.YtjdfgjlbmbiihaaDoor
open Go.RowKit

/-- What Arcs tells, at a list whose answer is known. -/
theorem arcs_at (ok : Nat → Prop) (v : Value) (l : List UInt8) (w : World) (hv : BR w ok v l) (hl : l.length ≤ 1000000000) (r : List Nat) (n : Nat) (e : Int) (h : arcsR l = (r, e)) (hn : r.length = n) :
    Calls Tryd.prog 23 #[v] w fun en w' => ∃ A c, en = .returned (.tuple #[.slice A n c, .int .i64 e]) ∧ UR w' (w.heap.size ≤ ·) (.slice A n c) r ∧ Kp (fun _ => False) w w' := by
  subst hn
  have := arcs_any ok v l w hv hl
  unfold ArcsP at this
  rw [h] at this
  exact this

set_option maxRecDepth 100000 in
set_option maxHeartbeats 1600000 in
theorem alive10 (w : World) : Calls Tryd.prog 25 #[] w fun e w' => e = .returned (.bool true) ∧ Kp (fun _ => False) w w' := by
  have r1 : arcsR [42, 134, 72, 134, 247, 13] = ([1, 2, 840, 113549], 0) := by decide
  have r2 : numR [0, 128] = (128, 0) := by decide
  have r3 : numR [255, 127] = (-129, 0) := by decide
  have r4 : numR [255, 128] = (0, 13) := by decide
  have HAR := Lib.hid (fun ok v W hv => arcs_at ok v [42, 134, 72, 134, 247, 13] W hv (by simp) [1, 2, 840, 113549] 4 0 r1 rfl)
  have hn2 := fun ok v W hv => dnumber_any ok v [0, 128] W hv (by simp)
  have hn3 := fun ok v W hv => dnumber_any ok v [255, 127] W hv (by simp)
  have hn4 := fun ok v W hv => dnumber_any ok v [255, 128] W hv (by simp)
  rw [r2] at hn2
  rw [r3] at hn3
  rw [r4] at hn4
  have HN2 := Lib.hid hn2
  have HN3 := Lib.hid hn3
  have HN4 := Lib.hid hn4
  have HL := Lib.hid (fun W : World => UR.lit W 65 [1, 2, 840, 113549] #[.int .u64 1, .int .u64 2, .int .u64 840, .int .u64 113549] 4 rfl rfl)
  clear r1 r2 r3 r4 hn2 hn3 hn4
  have k0 := (Kp.refl (fun _ => False) w).alloc (.cells #[.int .u8 42, .int .u8 134, .int .u8 72, .int .u8 134, .int .u8 247, .int .u8 13] 5)
  go_enter Tryd.func25, Tryd.ntmps25
  go_wp2_with fail
  refine (HAR.out _ _ _ (BR.lit w _ [42, 134, 72, 134, 247, 13] _ 6 rfl rfl)).mono ?_
  rintro e w1 ⟨A1, c1, rfl, hu1, hk1⟩
  have k1 := k0.then_ hk1 (fun _ h => h.elim)
  have HU1 := Lib.hid hu1
  clear hu1
  go_wp2_with fail
  refine (HN2.out _ _ _ (BR.lit w1 _ [0, 128] _ 2 rfl rfl)).mono ?_
  rintro e w2 ⟨rfl, hk2⟩
  have k12 := ((Kp.refl (fun _ => False) w1).alloc (.cells #[.int .u8 0, .int .u8 128] 5)).then_ hk2 (fun _ h => h.elim)
  go_wp2_with fail
  refine (HN3.out _ _ _ (BR.lit w2 _ [255, 127] _ 2 rfl rfl)).mono ?_
  rintro e w3 ⟨rfl, hk3⟩
  have k13 := (k12.alloc (.cells #[.int .u8 255, .int .u8 127] 5)).then_ hk3 (fun _ h => h.elim)
  go_wp2_with fail
  refine (HN4.out _ _ _ (BR.lit w3 _ [255, 128] _ 2 rfl rfl)).mono ?_
  rintro e w4 ⟨rfl, hk4⟩
  have k14 := (k13.alloc (.cells #[.int .u8 255, .int .u8 128] 5)).then_ hk4 (fun _ h => h.elim)
  have k15 := k14.alloc (.cells #[.int .u64 1, .int .u64 2, .int .u64 840, .int .u64 113549] 65)
  go_wp2_with fail
  refine (same_any _ _ _ _ [1, 2, 840, 113549] [1, 2, 840, 113549] _ (HU1.out.kp k15 (fun _ _ h => h)) (HL.out _) (by simp)).mono ?_
  rw [show (([1, 2, 840, 113549] : List Nat) == [1, 2, 840, 113549]) = true from by decide]
  rintro e w5 ⟨rfl, hk5⟩
  go_wp2_with fail
  go_ret
  exact ⟨rfl, (k1.then_ k15 (fun _ h => h.elim)).then_ hk5 (fun _ h => h.elim)⟩

/-! ### A number, seven bits a byte. -/
/-- The bytes ahead of the last: each with its high bit. -/
def lay7 : Nat → Nat → List UInt8
  | 0, _ => []
  | f + 1, x => if x = 0 then [] else lay7 f (x / 128) ++ [UInt8.ofNat (x % 128 + 128)]
def layL (x : Nat) : List UInt8 := lay7 10 (x / 128) ++ [UInt8.ofNat (x % 128)]
theorem u64_low7 (x : Nat) (hx : x < 18446744073709551616) : bits .and .u64 (x : Int) 127 = ((x % 128 : Nat) : Int) := by
  rw [show (127 : Int) = ((127 : Nat) : Int) from rfl, u64_and_nat _ _ hx (by omega), show (127 : Nat) = 2 ^ 7 - 1 from rfl, Nat.and_two_pow_sub_one_eq_mod]
theorem u8_hi (x : Nat) (hx : x < 128) : bits .or .u8 (x : Int) 128 = ((x + 128 : Nat) : Int) := by
  obtain ⟨n, hn⟩ : ∃ n : Fin 128, n.val = x := ⟨⟨x, hx⟩, rfl⟩
  subst hn
  revert n
  decide +kernel
end Go.Proofs.YtjdfgjlbmbiihaaDoor
