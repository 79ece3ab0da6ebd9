/-
  An act done on a builder: 'fives', 'do'.
-/
import Derived.Test.YtgndammlhljfjaaAct02
namespace Go.Proofs.Ytgndammlhljfjaa
open Go.RowKit

/-- A row of the call's own that is full: its block is known whole. -/
theorem own_blk {w : World} {base e n : Nat} {g : Nat} {xs : List Value} (h : w.ownsRow base e 1 (.slice (some ⟨g, 0, none⟩) n n) n xs) : Blk w g e xs.toArray := by
  obtain ⟨h1, h2⟩ := h
  rcases h2 with ⟨h2, _⟩ | ⟨g', cap, cur, h2, _, hh, _, _, hs, ht⟩
  · cases h2
  · injection h2 with hA _ hc
    injection hA with hA
    injection hA with hA
    subst hA hc
    have e1 : cur = xs.toArray := by
      rw [← ht, List.take_of_length_le (by simp at hs ⊢; omega)]
    rw [Blk, ← e1]
    exact hh

theorem zeros_bc2 (n : Nat) : (madeCells (Value.int .u8 0).cells (n * 1)).toList = bc (List.replicate n 0) := by
  have h : ∀ x : Nat, [Value.int .u8 0][x % 1]?.getD default = Value.int .u8 0 := fun x => by rw [Nat.mod_one]; rfl
  have h2 : ∀ (a : Value) (n : Nat), List.map (fun _ => a) (List.range n) = List.replicate n a := fun a n => by
    apply List.eq_replicate_iff.2
    simp
  simp [madeCells, bc, Value.cells, h, h2]

theorem fives_set (m k : Nat) (h : k < m) : (bc (List.replicate k 5 ++ List.replicate (m - k) 0)).toArray.setIfInBounds k (.int .u8 5) = (bc (List.replicate (k + 1) 5 ++ List.replicate (m - (k + 1)) 0)).toArray := by
  apply Array.ext'
  rw [Array.toList_setIfInBounds]
  simp only [bc_append]
  have e1 : m - k = (m - (k + 1)) + 1 := by omega
  rw [List.set_append_right _ _ (by simp [bc]), e1]
  simp [bc, List.replicate_succ']
  rw [← List.replicate_succ', List.replicate_succ]
  rfl

def fiveL (n : Int) : List UInt8 := List.replicate (n.toNat % 300) 5

set_option maxRecDepth 100000 in
set_option maxHeartbeats 1600000 in
theorem fives_any (n : Int) (hn : (Lit.int .i64 n).wf = true) (w : World) : Calls Try.prog 44 #[.int .i64 n] w fun e w' => ∃ A c, e = .returned (.slice A (n.toNat % 300) c) ∧ BR w' (w.heap.size ≤ ·) (.slice A (n.toNat % 300) c) (fiveL n) ∧ Kp (fun _ => False) w w' := by
  obtain ⟨i0, hi0, hz0, hz1, hz2⟩ := info_parts u8_info'
  obtain ⟨q0, q1⟩ := bounds_i64 hn
  obtain ⟨m, hm⟩ : ∃ m, n.toNat % 300 = m := ⟨_, rfl⟩
  have hml : m < 300 := by omega
  rw [fiveL, hm]
  have hmm : (n ≤ 0 ∧ m = 0) ∨ (0 < n ∧ n % 300 = (m : Int)) := by omega
  have hown' : ∀ w4, w4.ownsRow w.heap.size 5 1 (.slice (some ⟨w.heap.size, 0, none⟩) m m) m (madeCells (Value.int .u8 0).cells (m * 1)).toList → w.grownBy w4 none → Blk w4 w.heap.size 5 (bc (List.replicate 0 5 ++ List.replicate (m - 0) 0)).toArray ∧ Kp (fun _ => False) w w4 := by
    intro w4 h1 h2
    rw [zeros_bc2] at h1
    exact ⟨own_blk h1, (Kp.refl _ _).grown h2 (fun k hk => by cases hk)⟩
  have HO := Lib.hid hown'
  clear hown' hm hn
  rcases hmm with ⟨hn, hm⟩ | ⟨hn, hm⟩
  · have HM := Lib.hid hm
    clear hm
    go_enter Try.func44, Try.ntmps44
    go_wp2_with (at_make; refine wpList_make_full w rfl _ _ _ rfl w.heap.size 5 i0 _ 1 Try.underlying22 hi0 hz0 hz1 .i64 .i64 _ _ m rfl rfl (by rw [HM.out]; rfl) (by rw [HM.out]; rfl) (by rw [hz2]; omega) (by simp only [maxLen]; omega) (Nat.le_refl _) ?_; intro w4 hown hgrow; have hown' := Lib.hid hown; clear hown)
    obtain ⟨hb4, hk4⟩ := HO.out _ hown'.out hgrow
    have HB := Lib.hid hb4
    clear hb4 hown' hgrow HO
    go_loopw [11] (fun i wr => ∃ k : Nat, k ≤ m ∧ i = .int .i64 k ∧ Blk wr w.heap.size 5 (bc (List.replicate k 5 ++ List.replicate (m - k) 0)).toArray ∧ Kp (fun _ => False) w wr) (fun i _ => m - (intOf i).toNat)
    case atStart => exact ⟨0, Nat.zero_le _, rfl, HB.out, hk4⟩
    case round =>
      obtain ⟨k, hk, rfl, hbr, hkr⟩ := hrel
      have := HM.out
      obtain rfl : k = m := by omega
      have HBR := Lib.hid hbr
      clear hbr this
      go_wp2_with fail
      go_ret
      refine ⟨_, _, rfl, ?_, hkr⟩
      have h := HBR.out
      rw [Nat.sub_self, List.replicate_zero, List.append_nil] at h
      have h2 := BR.blk (k := 0) (n := k) h (by simp) k (Nat.le_refl _)
      rw [List.drop_zero, List.take_of_length_le (by simp)] at h2
      exact h2.mono (fun i hi => by omega)
  · have HM := Lib.hid hm
    clear hm
    go_enter Try.func44, Try.ntmps44
    go_wp2_with (at_make; refine wpList_make_full w rfl _ _ _ rfl w.heap.size 5 i0 _ 1 Try.underlying22 hi0 hz0 hz1 .i64 .i64 _ _ m rfl rfl HM.out HM.out (by rw [hz2]; omega) (by simp only [maxLen]; omega) (Nat.le_refl _) ?_; intro w4 hown hgrow; have hown' := Lib.hid hown; clear hown)
    obtain ⟨hb4, hk4⟩ := HO.out _ hown'.out hgrow
    have HB := Lib.hid hb4
    clear hb4 hown' hgrow HO
    go_loopw [11] (fun i wr => ∃ k : Nat, k ≤ m ∧ i = .int .i64 k ∧ Blk wr w.heap.size 5 (bc (List.replicate k 5 ++ List.replicate (m - k) 0)).toArray ∧ Kp (fun _ => False) w wr) (fun i _ => m - (intOf i).toNat)
    case atStart => exact ⟨0, Nat.zero_le _, rfl, HB.out, hk4⟩
    case round =>
      obtain ⟨k, hk, rfl, hbr, hkr⟩ := hrel
      by_cases hlt : k < m
      · have hc : wr.cell? ⟨w.heap.size, k, none⟩ = some (.int .u8 0) := by
          rw [hbr.cell k, bc_append, List.getElem?_toArray, List.getElem?_append_right (by simp [bc])]
          simp only [bc, List.length_replicate, List.map_replicate, Nat.sub_self]
          rw [List.getElem?_replicate, if_pos (by omega)]
          rfl
        have hf := hbr.frozen k
        have hset := hbr.set_ k (.int .u8 5)
        rw [fives_set m k hlt] at hset
        have HBR := Lib.hid hset
        have HKR := Lib.hid (hkr.setCell (p := ⟨w.heap.size, k, none⟩) (.inr (Nat.le_refl _)) (.int .u8 5))
        clear hbr hset
        go_wp2_with fail
        go_roundw
        case rel => exact ⟨k + 1, by omega, by go_num, HBR.out, HKR.out⟩
        case measure => simp [intOf]; omega
      · obtain rfl : k = m := by omega
        have HBR := Lib.hid hbr
        clear hbr
        go_wp2_with fail
        go_ret
        refine ⟨_, _, rfl, ?_, hkr⟩
        have h := HBR.out
        rw [Nat.sub_self, List.replicate_zero, List.append_nil] at h
        have h2 := BR.blk (k := 0) (n := k) h (by simp) k (Nat.le_refl _)
        rw [List.drop_zero, List.take_of_length_le (by simp)] at h2
        exact h2.mono (fun i hi => by omega)
end Go.Proofs.Ytgndammlhljfjaa
