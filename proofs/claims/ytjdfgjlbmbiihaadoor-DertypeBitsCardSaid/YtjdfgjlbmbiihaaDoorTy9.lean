/-
  The walk of law10's 'bytes'.
-/
import Derived.Test.YtjdfgjlbmbiihaaDoorTy8
namespace Go.Proofs.YtjdfgjlbmbiihaaDoor
open Go.RowKit

set_option maxRecDepth 100000 in
set_option maxHeartbeats 1600000 in
theorem bytes_any (x : Int) (hx0 : -9223372036854775808 ≤ x) (hx1 : x < 9223372036854775808) (w : World) : Calls Tryd.prog 32 #[.int .i64 x] w fun e w' => ∃ A c, e = .returned (.slice A (num8 7 x).length c) ∧ Own w' (w.heap.size ≤ ·) 5 1 (.slice A (num8 7 x).length c) (num8 7 x).length (bc (num8 7 x)) ∧ Kp (fun _ => False) w w' := by
  have w8 : ∀ y : Int, y % 256 = ((b8 y).toNat : Int) := by
    intro y
    rw [b8_nat]
    omega
  have hlit : ∀ y : Int, #[Value.int .u8 (y % 256)] = (bc [b8 y]).toArray := by
    intro y
    rw [w8]
    rfl
  have HO := Lib.hid (Own.lit w [b8 x] _ 1 w.heap.size rfl (hlit x) (Nat.le_refl _) (by decide))
  have hk0 : Kp (fun _ => False) w (w.alloc (.cells #[.int .u8 (x % 256)] 5)) := (Kp.refl _ _).alloc _
  have HL := Lib.hid (show num8 7 x = pre8 7 x ++ [b8 x] from rfl)
  have LIT := Lib.hid hlit
  clear hlit w8
  go_enter Tryd.func32, Tryd.ntmps32
  go_wp2_with fail
  go_loopw [0, 3] (fun xv bv wr => ∃ (f : Nat) (y : Int) (B : List UInt8) (A' : Option Addr) (c' : Nat), xv = .int .i64 y ∧ bv = .slice A' B.length c' ∧ Own wr (w.heap.size ≤ ·) 5 1 (.slice A' B.length c') B.length (bc B) ∧ num8 7 x = pre8 f y ++ B ∧ -(128 * 256 ^ f) ≤ y ∧ y < 128 * 256 ^ f ∧ f ≤ 7 ∧ B.length + f ≤ 8 ∧ -9223372036854775808 ≤ y ∧ y < 9223372036854775808 ∧ Kp (fun _ => False) w wr) (fun xv _ _ => (intOf xv).natAbs)
  case atStart => exact ⟨7, x, [b8 x], _, _, rfl, rfl, HO.out, HL.out, by omega, by omega, Nat.le_refl _, by simp, hx0, hx1, hk0⟩
  case round =>
    obtain ⟨f, y, B, A', c', rfl, rfl, hown, he, hy0, hy1, hf, hBf, hz0, hz1, hkr⟩ := hrel
    have HOW := Lib.hid hown
    have HE := Lib.hid he
    clear hown he HO HL hk0
    by_cases hy : 127 < y ∨ y < -128
    · rcases f with _ | f
      · simp at hy0 hy1
        omega
      · have hz := hkr.size
        have HO2 := Lib.hid (Own.lit wr [b8 (y / 256)] _ 1 w.heap.size rfl (LIT.out (y / 256)) hz (by decide))
        have hka : Kp (fun _ => False) wr (wr.alloc (.cells #[.int .u8 (y / 256 % 256)] 5)) := (Kp.refl _ _).alloc _
        have HB2 := Lib.hid ((HOW.out.kp hka (fun _ _ h => h)).br rfl)
        have hka2 := hkr.then_ hka (fun _ h => h.elim)
        have hza := hka2.size
        have HEN := Lib.hid (show num8 7 x = pre8 f (y / 256) ++ ([b8 (y / 256)] ++ B) by
          rw [HE.out, pre8, if_pos hy, List.append_assoc])
        have hn0 : -(128 * 256 ^ f) ≤ y / 256 := by rw [Int.pow_succ] at hy0; omega
        have hn1 : y / 256 < 128 * 256 ^ f := by rw [Int.pow_succ] at hy1; omega
        have HM := Lib.hid (show (y / 256).natAbs < y.natAbs by omega)
        have hcase : (decide ((127 : Int) < y) = true) ∨ (decide ((127 : Int) < y) = false ∧ decide (y < -128) = true) := by
          rcases hy with h | h
          · exact .inl (by simpa using h)
          · exact .inr ⟨by simp; omega, by simpa using h⟩
        clear hka hy hy0 hy1
        rcases hcase with hc1 | ⟨hc1, hc2⟩
        · go_wp2_with (at_builtin; refine app_bytes rfl (.tmp 17) (.tmp 18) rfl w.heap.size _ 1 _ [b8 (y / 256)] rfl rfl HO2.out _ A' B.length c' B rfl rfl HB2.out (1 + B.length) rfl (by omega) hza ?_; intro A2 c2 W2 o2 q2; have O2 := Lib.hid o2; have K2 := Lib.hid (hka2.then_ q2 (fun i hi => .inr hi)); clear o2 q2)
          go_roundw
          case rel => exact ⟨f, y / 256, [b8 (y / 256)] ++ B, A2, c2, by go_num, by simp; omega, by simpa [Nat.add_comm] using O2.out, HEN.out, hn0, hn1, by omega, by simp; omega, by omega, by omega, K2.out⟩
          case measure => have := HM.out; simpa [intOf] using this
        · go_wp2_with (at_builtin; refine app_bytes rfl (.tmp 17) (.tmp 18) rfl w.heap.size _ 1 _ [b8 (y / 256)] rfl rfl HO2.out _ A' B.length c' B rfl rfl HB2.out (1 + B.length) rfl (by omega) hza ?_; intro A2 c2 W2 o2 q2; have O2 := Lib.hid o2; have K2 := Lib.hid (hka2.then_ q2 (fun i hi => .inr hi)); clear o2 q2)
          go_roundw
          case rel => exact ⟨f, y / 256, [b8 (y / 256)] ++ B, A2, c2, by go_num, by simp; omega, by simpa [Nat.add_comm] using O2.out, HEN.out, hn0, hn1, by omega, by simp; omega, by omega, by omega, K2.out⟩
          case measure => have := HM.out; simpa [intOf] using this
    · have hB : num8 7 x = B := by
        rw [HE.out]
        cases f
        · rfl
        · rw [pre8, if_neg hy]
          rfl
      have HB := Lib.hid hB
      have hc1 : decide ((127 : Int) < y) = false := by simp; omega
      have hc2 : decide (y < -128) = false := by simp; omega
      clear hB hy0 hy1
      go_wp2_with fail
      go_ret
      rw [HB.out]
      exact ⟨A', c', rfl, HOW.out, hkr⟩
end Go.Proofs.YtjdfgjlbmbiihaaDoor
