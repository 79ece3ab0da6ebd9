/-
  The document's Bytes of layer 1, and its builder's state; New and Len.
-/
import Derived.Test.YtgndammlhljfjaaAct02c
import Derived.Test.YtgndammlhljfjaaR01
import Derived.Test.YtgndammlhljfjaaLib3
import Derived.Test.YtgndammlhljfjaaOpen
namespace Go.Proofs.Ytgndammlhljfjaa
open Go.RowKit

theorem beB_cons (j x : Nat) : beB (j + 1) x = UInt8.ofNat (x / 256 ^ j) :: beB j x := by
  induction j generalizing x with
  | zero => simp [beB]
  | succ j ih =>
    rw [beB, ih, beB, Nat.div_div_eq_div_mul, Nat.pow_succ, Nat.mul_comm (256 ^ j) 256]
    rfl

theorem bytes_set (s k x : Nat) (h : k + 1 ≤ s) : (bc (List.replicate (k + 1) 0 ++ beB (s - (k + 1)) x)).toArray.setIfInBounds k (.int .u8 ((x / 256 ^ (s - (k + 1)) % 256 : Nat) : Int)) = (bc (List.replicate k 0 ++ beB (s - k) x)).toArray := by
  apply Array.ext'
  rw [Array.toList_setIfInBounds]
  have e1 : s - k = (s - (k + 1)) + 1 := by omega
  rw [e1, beB_cons, List.replicate_succ']
  simp only [bc_append, List.append_assoc]
  rw [List.set_append_right _ _ (by simp [bc])]
  congr 1
  simp [bc]

set_option maxRecDepth 100000 in
set_option maxHeartbeats 1600000 in
theorem rbytes_any (x s : Nat) (hx : x < 18446744073709551616) (hs : s ≤ 8) (w : World) : Calls Try.prog 49 #[.int .u64 x, .int .i64 s] w fun e w' => ∃ A c, e = .returned (.slice A s c) ∧ BR w' (w.heap.size ≤ ·) (.slice A s c) (beB s x) ∧ Kp (fun _ => False) w w' := by
  obtain ⟨i0, hi0, hz0, hz1, hz2⟩ := info_parts u8_info'
  have hown' : ∀ w4, w4.ownsRow w.heap.size 5 1 (.slice (some ⟨w.heap.size, 0, none⟩) s s) s (madeCells (Value.int .u8 0).cells (s * 1)).toList → w.grownBy w4 none → Blk w4 w.heap.size 5 (bc (List.replicate s 0 ++ beB (s - s) x)).toArray ∧ Kp (fun _ => False) w w4 := by
    intro w4 h1 h2
    rw [zeros_bc2] at h1
    rw [Nat.sub_self, beB, List.append_nil]
    exact ⟨own_blk h1, (Kp.refl _ _).grown h2 (fun k hk => by cases hk)⟩
  have HO := Lib.hid hown'
  clear hown'
  go_enter Try.func49, Try.ntmps49
  go_wp2_with (at_make; refine wpList_make_full w rfl _ _ _ rfl w.heap.size 5 i0 _ 1 Try.underlying22 hi0 hz0 hz1 .i64 .i64 _ _ s rfl rfl rfl rfl (by rw [hz2]; omega) (by simp only [maxLen]; omega) (Nat.le_refl _) ?_; intro w4 hown hgrow; have hown' := Lib.hid hown; clear hown)
  obtain ⟨hb4, hk4⟩ := HO.out _ hown'.out hgrow
  have HB := Lib.hid hb4
  clear hb4 hown' hgrow HO
  go_loopw [0, 6] (fun xv i wr => ∃ k y : Nat, k ≤ s ∧ i = .int .i64 ((k : Int) - 1) ∧ y = x / 256 ^ (s - k) ∧ xv = .int .u64 y ∧ Blk wr w.heap.size 5 (bc (List.replicate k 0 ++ beB (s - k) x)).toArray ∧ Kp (fun _ => False) w wr) (fun _ i _ => (intOf i + 1).toNat)
  case atStart => exact ⟨s, x, Nat.le_refl _, rfl, by simp, rfl, HB.out, hk4⟩
  case round =>
    obtain ⟨k, y, hk, rfl, hy, rfl, hbr, hkr⟩ := hrel
    rcases k with _ | k
    · have HBR := Lib.hid hbr
      have HY := Lib.hid hy
      clear hbr hy
      go_wp2_with fail
      go_ret
      refine ⟨_, _, rfl, ?_, hkr⟩
      have h := HBR.out
      rw [Nat.sub_zero, List.replicate_zero, List.nil_append] at h
      have h2 := BR.blk (k := 0) (n := s) h (by simp [beB_length]) s (Nat.le_refl _)
      rw [List.drop_zero, List.take_of_length_le (by simp [beB_length])] at h2
      exact h2.mono (fun i hi => by omega)
    · have hyl : y ≤ x := by rw [hy]; exact Nat.div_le_self _ _
      have hc : wr.cell? ⟨w.heap.size, k, none⟩ = some (.int .u8 0) := by
        rw [hbr.cell k, bc_append, List.getElem?_toArray, List.getElem?_append_left (by simp [bc])]
        simp only [bc, List.map_replicate]
        rw [List.getElem?_replicate, if_pos (by omega)]
        rfl
      have hf := hbr.frozen k
      have hset := hbr.set_ k (.int .u8 ((x / 256 ^ (s - (k + 1)) % 256 : Nat) : Int))
      rw [bytes_set s k x hk, ← hy] at hset
      have hy2 : y / 256 = x / 256 ^ (s - k) := by
        rw [hy, Nat.div_div_eq_div_mul, ← Nat.pow_succ]
        congr 2
        omega
      have HBR := Lib.hid hset
      have HKR := Lib.hid (hkr.setCell (p := ⟨w.heap.size, k, none⟩) (.inr (Nat.le_refl _)) (.int .u8 ((y % 256 : Nat) : Int)))
      have HY := Lib.hid hy2
      have hidx : ((k + 1 : Nat) : Int) - 1 = (k : Int) := by omega
      rw [hidx]
      clear hbr hset hy hy2 hidx
      go_wp2_with fail
      go_roundw
      case rel => exact ⟨k, y / 256, by omega, rfl, HY.out, by go_num, HBR.out, HKR.out⟩
      case measure => simp [intOf]
end Go.Proofs.Ytgndammlhljfjaa
