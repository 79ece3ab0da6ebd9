/-
  Chapter 9's statements: the document's examples; bytes that begin a thing.
-/
import Derived.Test.YtjdfgjlbmbiihaaDoorDr
namespace Go.Proofs.YtjdfgjlbmbiihaaDoor
open Go.RowKit

theorem rdV_of {l : List UInt8} {c t : Int} {m : Bool} {n k e : Int} (h : rd l = ((c, t, m, n), k, e)) : rdV l = .tuple #[.agg #[.int .i64 c, .int .i64 t, .bool m, .int .i64 n], .int .i64 k, .int .i64 e] := by
  rw [rdV, h]
  rfl

theorem Blk.cells4 {w : World} {g : Nat} {t : TypeId} {a b c d : Value} (h : Blk w g t #[a, b, c, d]) : w.cell? ⟨g, 0, none⟩ = some a ∧ w.cell? ⟨g, 1, none⟩ = some b ∧ w.cell? ⟨g, 2, none⟩ = some c ∧ w.cell? ⟨g, 3, none⟩ = some d :=
  ⟨h.cell 0, h.cell 1, h.cell 2, h.cell 3⟩

set_option maxRecDepth 100000 in
set_option maxHeartbeats 1600000 in
theorem alive09 (w : World) (ht : Tab w) : Calls Tryd.prog 16 #[] w fun e w' => e = .returned (.bool true) ∧ Kp (fun _ => False) w w' := by
  have r1 := rdV_of (show rd [48, 130, 1, 0] = ((0, 16, true, 256), 4, 0) from by decide)
  have r2 := rdV_of (show rd [2, 129, 5] = ((0, 0, false, 0), 1, 13) from by decide)
  have r3 := rdV_of (show rd [31, 0] = ((0, 0, false, 0), 0, 13) from by decide)
  have R1 := Lib.hid r1
  have R2 := Lib.hid r2
  have R3 := Lib.hid r3
  clear r1 r2 r3
  go_enter Tryd.func16, Tryd.ntmps16
  go_wp2_with fail
  have k0 := (Kp.refl (fun _ => False) w).alloc (.cells #[.int .u8 48, .int .u8 130, .int .u8 1, .int .u8 0] 5)
  refine (read_any _ _ _ [48, 130, 1, 0] (BR.lit w _ [48, 130, 1, 0] _ 4 rfl rfl) (ht.kp k0) (by simp)).mono ?_
  rw [R1.out]
  rintro e w1 ⟨rfl, hk1⟩
  have k1 := (k0.then_ hk1 (fun _ h => h.elim)).alloc (.cells #[.int .i64 0, .int .i64 16, .bool true, .int .i64 256] 24)
  have b1 := Blk.new w1 24 #[.int .i64 0, .int .i64 16, .bool true, .int .i64 256]
  go_wp2_with fail
  generalize hW1 : w1.alloc (.cells #[.int .i64 0, .int .i64 16, .bool true, .int .i64 256] 24) = W1 at k1 b1 ⊢
  have k2 := k1.alloc (.cells #[.int .u8 2, .int .u8 129, .int .u8 5] 5)
  have l1 := BR.lit W1 5 [2, 129, 5] _ 3 rfl rfl
  rw [show W1.heap.size = w1.heap.size + 1 from by rw [← hW1]; simp] at l1
  refine (read_any _ _ _ [2, 129, 5] l1 (ht.kp k2) (by simp)).mono ?_
  rw [R2.out]
  rintro e w2 ⟨rfl, hk2⟩
  have k3 := (k2.then_ hk2 (fun _ h => h.elim)).alloc (.cells #[.int .i64 0, .int .i64 0, .bool false, .int .i64 0] 24)
  have b3 := ((b1.alloc (.cells #[.int .u8 2, .int .u8 129, .int .u8 5] 5)).kp hk2 (fun h => h)).alloc (.cells #[.int .i64 0, .int .i64 0, .bool false, .int .i64 0] 24)
  go_wp2_with fail
  generalize hW2 : w2.alloc (.cells #[.int .i64 0, .int .i64 0, .bool false, .int .i64 0] 24) = W2 at k3 b3 ⊢
  have k4 := k3.alloc (.cells #[.int .u8 31, .int .u8 0] 5)
  have l2 := BR.lit W2 5 [31, 0] _ 2 rfl rfl
  rw [show W2.heap.size = w2.heap.size + 1 from by rw [← hW2]; simp] at l2
  refine (read_any _ _ _ [31, 0] l2 (ht.kp k4) (by simp)).mono ?_
  rw [R3.out]
  rintro e w3 ⟨rfl, hk3⟩
  have k5 := (k4.then_ hk3 (fun _ h => h.elim)).alloc (.cells #[.int .i64 0, .int .i64 0, .bool false, .int .i64 0] 24)
  have b5 := ((b3.alloc (.cells #[.int .u8 31, .int .u8 0] 5)).kp hk3 (fun h => h)).alloc (.cells #[.int .i64 0, .int .i64 0, .bool false, .int .i64 0] 24)
  obtain ⟨c0, c1, c2, c3⟩ := b5.cells4
  have K5 := Lib.hid k5
  go_wp2_with fail
  go_ret
  exact ⟨rfl, K5.out⟩

theorem i64_and_nat (a b : Nat) (ha : a < 9223372036854775808) (hb : b < 9223372036854775808) : bits .and .i64 (a : Int) (b : Int) = ((a &&& b : Nat) : Int) := by
  have hx : a &&& b < 2 ^ 63 := Nat.and_lt_two_pow _ (by omega)
  show IntKind.i64.wrap ((BitVec.ofInt 64 (a : Int) &&& BitVec.ofInt 64 (b : Int)).toNat : Int) = _
  rw [BitVec.toNat_and, ofInt_u64 a (by omega), ofInt_u64 b (by omega)]
  simp [IntKind.wrap, IntKind.bits, IntKind.signed]
  omega
theorem i64_bit5 (x : Nat) (hx : x < 256) : decide (0 < bits .and .i64 (x : Int) 32) = (x / 32 % 2 == 1) := by
  rw [show (32 : Int) = ((32 : Nat) : Int) from rfl, i64_and_nat _ _ (by omega) (by omega), show (32 : Nat) = 2 ^ 5 from rfl, nat_bit]
  rcases Nat.mod_two_eq_zero_or_one (x / 2 ^ 5) with h | h
  · rw [h]; rfl
  · rw [h]; rfl

theorem topB_of (k : Nat) (hk : k < 256) : topB (UInt8.ofNat k) = kindB ((k : Int) / 64) ((k : Int) % 32) (k / 32 % 2 == 1) := by
  rw [topB, UInt8.toNat_ofNat', show k % 2 ^ 8 = k from by omega]

set_option maxRecDepth 100000 in
set_option maxHeartbeats 1600000 in
theorem dbytes_walk (w : World) (ht : Tab w) (n : Int) (h0 : (Lit.int .u8 n).wf = true) :
    Calls Tryd.prog 4 #[.int .u8 n] w fun e w' => e = .returned (.bool true) ∧ Below w.heap.size w w' := by
  obtain ⟨h1, h2⟩ := bounds_u8 h0
  obtain ⟨n, rfl⟩ := Int.eq_ofNat_of_zero_le h1
  clear h0
  go_enter Tryd.func4, Tryd.ntmps4
  go_wp2_with fail
  refine (alive09 _ ht).mono ?_
  rintro e w1 ⟨rfl, hk1⟩
  go_wp2_with fail
  go_loopw [10] (fun i wr => ∃ k : Nat, k ≤ 256 ∧ i = .int .i64 k ∧ Kp (fun _ => False) w wr) (fun i _ => 256 - (intOf i).toNat)
  case atStart => exact ⟨0, Nat.zero_le _, rfl, hk1⟩
  case round =>
    obtain ⟨k, hk, rfl, hkr⟩ := hrel
    by_cases hlt : k < 256
    · obtain ⟨m, hm⟩ : ∃ m, (k / 32 % 2 == 1) = m := ⟨_, rfl⟩
      have e32 : decide (0 < bits .and .i64 (k : Int) 32) = m := (i64_bit5 k hlt).trans hm
      have e31 : bits .and .i64 (k : Int) 31 = (k : Int) % 32 := by
        rw [show (31 : Int) = ((31 : Nat) : Int) from rfl, i64_and_nat _ _ (by omega) (by omega), nat_mask5]
        omega
      have hq : topB (UInt8.ofNat k) = kindB ((k : Int) / 64) ((k : Int) % 32) m := by rw [topB_of k hlt, hm]
      obtain ⟨p, hpe⟩ : ∃ p, n % 128 = p := ⟨_, rfl⟩
      have e127 : bits .and .u8 (n : Int) 127 = (p : Int) := by
        rw [show (127 : Int) = ((127 : Nat) : Int) from rfl, u8_and_nat _ _ (by omega) (by omega), nat_mask7, hpe]
      have hp : p < 128 := by omega
      have hc : (UInt8.ofNat p).toNat = p := by rw [UInt8.toNat_ofNat']; omega
      have hlit : #[Value.int .u8 (k : Int), .int .u8 (p : Int)] = (bc [UInt8.ofNat k, UInt8.ofNat p]).toArray := by
        simp only [bc, List.map_cons, List.map_nil, hc, UInt8.toNat_ofNat', show k % 2 ^ 8 = k from by omega]
      have HLIT := Lib.hid hlit
      clear hlit
      cases htop : kindB ((k : Int) / 64) ((k : Int) % 32) m
      · have hrd := rd_bad (hq.trans htop) [UInt8.ofNat p]
        have R := Lib.hid (rdV_of (show rd [UInt8.ofNat k, UInt8.ofNat p] = ((0, 0, false, 0), 0, 13) from hrd))
        have HT := Lib.hid htop
        clear hq hm htop hpe hrd hc
        go_wp2_with fail
        have l := BR.lit wr 5 [UInt8.ofNat k, UInt8.ofNat p] #[.int .u8 k, .int .u8 p] 2 rfl HLIT.out
        have kk := hkr.alloc (.cells #[.int .u8 k, .int .u8 p] 5)
        refine (read_any _ _ _ _ l (ht.kp kk) (by simp)).mono ?_
        rw [R.out]
        rintro e w2 ⟨rfl, hk2⟩
        have K2 := Lib.hid (kk.then_ hk2 (fun _ h => h.elim))
        go_wp2_with (go_at_call 17; ((with_reducible refine (rkind_any _ _ _ _).mono ?_); rw [HT.out]; rintro e w' ⟨rfl, rfl⟩))
        go_roundw
        case rel => exact ⟨k + 1, by omega, by go_num, K2.out.alloc _⟩
        case measure => simp [intOf]; omega
      · have hrd : rd [UInt8.ofNat k, UInt8.ofNat p] = (hdB (UInt8.ofNat k) p, 2, 0) := by rw [rd, if_pos (hq.trans htop), hc, if_pos hp]
        have R := Lib.hid (rdV_of (show rd [UInt8.ofNat k, UInt8.ofNat p] = ((((UInt8.ofNat k).toNat : Int) / 64, ((UInt8.ofNat k).toNat : Int) % 32, (UInt8.ofNat k).toNat / 32 % 2 == 1, (p : Int)), 2, 0) from hrd))
        have HT := Lib.hid htop
        clear hq hm htop hpe hrd hc
        go_wp2_with fail
        have l := BR.lit wr 5 [UInt8.ofNat k, UInt8.ofNat p] #[.int .u8 k, .int .u8 p] 2 rfl HLIT.out
        have kk := hkr.alloc (.cells #[.int .u8 k, .int .u8 p] 5)
        refine (read_any _ _ _ _ l (ht.kp kk) (by simp)).mono ?_
        rw [R.out]
        rintro e w2 ⟨rfl, hk2⟩
        have K2 := Lib.hid (kk.then_ hk2 (fun _ h => h.elim))
        go_wp2_with (go_at_call 17; ((with_reducible refine (rkind_any _ _ _ _).mono ?_); rw [HT.out]; rintro e w' ⟨rfl, rfl⟩))
        go_roundw
        case rel => exact ⟨k + 1, by omega, by go_num, K2.out.alloc _⟩
        case measure => simp [intOf]; omega
    · obtain rfl : k = 256 := by omega
      go_wp2_with fail
      go_ret
      exact ⟨by simp, hkr.below⟩
end Go.Proofs.YtjdfgjlbmbiihaaDoor
