/-
  The document's Put of layer 9: the bytes of a head that may be.
-/
import Derived.Test.YtjdfgjlbmbiihaaDoorDp
namespace Go.Proofs.YtjdfgjlbmbiihaaDoor
open Go.RowKit

def RPutP (c t : Int) (m : Bool) (n : Int) (w : World) (e : Ending) (w' : World) : Prop :=
  ∃ A cp, e = .returned (.slice A (pt c t m n).1.length cp) ∧ BR w' (w.heap.size ≤ ·) (.slice A (pt c t m n).1.length cp) (pt c t m n).1 ∧ Kp (fun _ => False) w w'

set_option maxRecDepth 100000 in
set_option maxHeartbeats 1600000 in
theorem rput_ok_f0 (w : World) (c t : Int) (n : Nat) (hk : kindB c t false = true) (h1 : 0 ≤ n) (h2 : n < 128) : Calls Tryd.prog 20 #[.agg #[.int .i64 c, .int .i64 t, .bool false, .int .i64 n]] w (RPutP c t false n w) := by
  obtain ⟨hcc, ht0, ht1⟩ := kindB_cases hk
  obtain ⟨f, g, -, hf2, -, hhb, hg2, hf, hg⟩ := hb_first hk
  have kk : Kp (fun _ => False) w (w.alloc (.cells #[.int .i64 c, .int .i64 t, .bool false, .int .i64 n] 28)) := (Kp.refl _ _).alloc _
  have hpt : pt c t false n = (UInt8.ofNat f :: [UInt8.ofNat n], 0) := by
    rw [pt, if_pos hk, if_neg (by omega), hhb, Int.toNat_natCast, lenB]
    simp only [if_pos h2]
    rfl
  have hP : ∀ A cp w', BR w' (w.heap.size ≤ ·) (.slice A 2 cp) (UInt8.ofNat f :: [UInt8.ofNat n]) → Kp (fun _ => False) w w' → RPutP c t false n w (.returned (.slice A 2 cp)) w' := by
    intro A cp w' q1 q2
    rw [RPutP, hpt]
    exact ⟨A, cp, rfl, q1, q2⟩
  clear hk hpt hhb
  have hl1 : #[Value.int .u8 (64 * c + t)] = (bc [UInt8.ofNat f]).toArray := by
    simp only [bc, List.map_cons, List.map_nil, UInt8.toNat_ofNat']
    congr 3
    omega
  have hl2 : #[Value.int .u8 ((n : Int))] = (bc [UInt8.ofNat n]).toArray := by
    simp only [bc, List.map_cons, List.map_nil, UInt8.toNat_ofNat']
    have e0 : ((n % 2 ^ 8 : Nat) : Int) = (n : Int) := by omega
    rw [e0]
    all_goals rfl
  obtain ⟨z, hz⟩ : ∃ z : Int, (n : Int) = z := ⟨_, rfl⟩
  have g1 : (0 : Int) ≤ z := by omega
  have g2 : z < 128 := by omega
  rw [hz] at kk hP hl2 ⊢
  clear h1 h2 hz
  have HP := Lib.hid hP
  clear hP
  have HO := Lib.hid (fun (W : World) (B : Nat) (hB : B ≤ W.heap.size) => Own.lit W [UInt8.ofNat f] _ 1 B rfl hl1 hB (by decide))
  have HL := Lib.hid (fun W : World => BR.lit W 5 [UInt8.ofNat n] _ 1 rfl hl2)
  clear hl1 hl2
  have o0 := HO.out (w.alloc (.cells #[.int .i64 c, .int .i64 t, .bool false, .int .i64 z] 28)) w.heap.size (by simp)
  simp only [World.size_alloc] at o0
  have k0 := kk.alloc (.cells #[.int .u8 (64 * c + t)] 5)
  have l0 := HL.out ((w.alloc (.cells #[.int .i64 c, .int .i64 t, .bool false, .int .i64 z] 28)).alloc (.cells #[.int .u8 (64 * c + t)] 5))
  simp only [World.size_alloc] at l0
  have O0 := Lib.hid (o0.kp ((Kp.refl (fun _ => False) _).alloc (.cells #[.int .u8 (z)] 5)) (fun _ _ h => h))
  have L0 := Lib.hid l0
  have K1 := Lib.hid (k0.alloc (.cells #[.int .u8 (z)] 5))
  clear o0 l0
  go_enter Tryd.func20, Tryd.ntmps20
  go_wp2_with (at_builtin; refine app_bytes rfl (.tmp 21) (.tmp 25) rfl w.heap.size _ 1 _ [UInt8.ofNat f] rfl rfl O0.out _ _ 1 _ [UInt8.ofNat n] rfl rfl L0.out 2 rfl (by omega) (by simp; omega) ?_; intro A1 c1 W1 o1 q1)
  go_ret
  exact HP.out _ _ _ (o1.br rfl) (K1.out.then_ q1 (fun _ h => .inr h))

set_option maxRecDepth 100000 in
set_option maxHeartbeats 1600000 in
theorem rput_ok_f1 (w : World) (c t : Int) (n : Nat) (hk : kindB c t false = true) (h1 : 128 ≤ n) (h2 : n < 256) : Calls Tryd.prog 20 #[.agg #[.int .i64 c, .int .i64 t, .bool false, .int .i64 n]] w (RPutP c t false n w) := by
  obtain ⟨hcc, ht0, ht1⟩ := kindB_cases hk
  obtain ⟨f, g, -, hf2, -, hhb, hg2, hf, hg⟩ := hb_first hk
  have kk : Kp (fun _ => False) w (w.alloc (.cells #[.int .i64 c, .int .i64 t, .bool false, .int .i64 n] 28)) := (Kp.refl _ _).alloc _
  have hpt : pt c t false n = (UInt8.ofNat f :: [129, UInt8.ofNat n], 0) := by
    rw [pt, if_pos hk, if_neg (by omega), hhb, Int.toNat_natCast, lenB]
    simp only [if_neg (show ¬ n < 128 by omega), if_pos h2]
    rfl
  have hP : ∀ A cp w', BR w' (w.heap.size ≤ ·) (.slice A 3 cp) (UInt8.ofNat f :: [129, UInt8.ofNat n]) → Kp (fun _ => False) w w' → RPutP c t false n w (.returned (.slice A 3 cp)) w' := by
    intro A cp w' q1 q2
    rw [RPutP, hpt]
    exact ⟨A, cp, rfl, q1, q2⟩
  clear hk hpt hhb
  have hl1 : #[Value.int .u8 (64 * c + t)] = (bc [UInt8.ofNat f]).toArray := by
    simp only [bc, List.map_cons, List.map_nil, UInt8.toNat_ofNat']
    congr 3
    omega
  have hl2 : #[Value.int .u8 (129), .int .u8 ((n : Int))] = (bc [129, UInt8.ofNat n]).toArray := by
    simp only [bc, List.map_cons, List.map_nil, UInt8.toNat_ofNat']
    have e0 : ((n % 2 ^ 8 : Nat) : Int) = (n : Int) := by omega
    rw [e0]
    all_goals rfl
  obtain ⟨z, hz⟩ : ∃ z : Int, (n : Int) = z := ⟨_, rfl⟩
  have g1 : (128 : Int) ≤ z := by omega
  have g2 : z < 256 := by omega
  rw [hz] at kk hP hl2 ⊢
  clear h1 h2 hz
  have HP := Lib.hid hP
  clear hP
  have HO := Lib.hid (fun (W : World) (B : Nat) (hB : B ≤ W.heap.size) => Own.lit W [UInt8.ofNat f] _ 1 B rfl hl1 hB (by decide))
  have HL := Lib.hid (fun W : World => BR.lit W 5 [129, UInt8.ofNat n] _ 2 rfl hl2)
  clear hl1 hl2
  have o0 := HO.out (w.alloc (.cells #[.int .i64 c, .int .i64 t, .bool false, .int .i64 z] 28)) w.heap.size (by simp)
  simp only [World.size_alloc] at o0
  have k0 := kk.alloc (.cells #[.int .u8 (64 * c + t)] 5)
  have l0 := HL.out ((w.alloc (.cells #[.int .i64 c, .int .i64 t, .bool false, .int .i64 z] 28)).alloc (.cells #[.int .u8 (64 * c + t)] 5))
  simp only [World.size_alloc] at l0
  have O0 := Lib.hid (o0.kp ((Kp.refl (fun _ => False) _).alloc (.cells #[.int .u8 (129), .int .u8 (z)] 5)) (fun _ _ h => h))
  have L0 := Lib.hid l0
  have K1 := Lib.hid (k0.alloc (.cells #[.int .u8 (129), .int .u8 (z)] 5))
  clear o0 l0
  go_enter Tryd.func20, Tryd.ntmps20
  go_wp2_with (at_builtin; refine app_bytes rfl (.tmp 30) (.tmp 34) rfl w.heap.size _ 1 _ [UInt8.ofNat f] rfl rfl O0.out _ _ 2 _ [129, UInt8.ofNat n] rfl rfl L0.out 3 rfl (by omega) (by simp; omega) ?_; intro A1 c1 W1 o1 q1)
  go_ret
  exact HP.out _ _ _ (o1.br rfl) (K1.out.then_ q1 (fun _ h => .inr h))

set_option maxRecDepth 100000 in
set_option maxHeartbeats 1600000 in
theorem rput_ok_f2 (w : World) (c t : Int) (n : Nat) (hk : kindB c t false = true) (h1 : 256 ≤ n) (h2 : n < 65536) : Calls Tryd.prog 20 #[.agg #[.int .i64 c, .int .i64 t, .bool false, .int .i64 n]] w (RPutP c t false n w) := by
  obtain ⟨hcc, ht0, ht1⟩ := kindB_cases hk
  obtain ⟨f, g, -, hf2, -, hhb, hg2, hf, hg⟩ := hb_first hk
  have kk : Kp (fun _ => False) w (w.alloc (.cells #[.int .i64 c, .int .i64 t, .bool false, .int .i64 n] 28)) := (Kp.refl _ _).alloc _
  have hpt : pt c t false n = (UInt8.ofNat f :: [130, UInt8.ofNat (n / 256), UInt8.ofNat n], 0) := by
    rw [pt, if_pos hk, if_neg (by omega), hhb, Int.toNat_natCast, lenB]
    simp only [if_neg (show ¬ n < 128 by omega), if_neg (show ¬ n < 256 by omega), if_pos h2, beB, List.nil_append, List.cons_append]
    rfl
  have hP : ∀ A cp w', BR w' (w.heap.size ≤ ·) (.slice A 4 cp) (UInt8.ofNat f :: [130, UInt8.ofNat (n / 256), UInt8.ofNat n]) → Kp (fun _ => False) w w' → RPutP c t false n w (.returned (.slice A 4 cp)) w' := by
    intro A cp w' q1 q2
    rw [RPutP, hpt]
    exact ⟨A, cp, rfl, q1, q2⟩
  clear hk hpt hhb
  have hl1 : #[Value.int .u8 (64 * c + t)] = (bc [UInt8.ofNat f]).toArray := by
    simp only [bc, List.map_cons, List.map_nil, UInt8.toNat_ofNat']
    congr 3
    omega
  have hl2 : #[Value.int .u8 (130), .int .u8 ((n : Int) / 256), .int .u8 ((n : Int) % 256)] = (bc [130, UInt8.ofNat (n / 256), UInt8.ofNat n]).toArray := by
    simp only [bc, List.map_cons, List.map_nil, UInt8.toNat_ofNat']
    have e0 : ((n % 2 ^ 8 : Nat) : Int) = (n : Int) % 256 := by omega
    have e1 : ((n / 256 % 2 ^ 8 : Nat) : Int) = (n : Int) / 256 := by omega
    rw [e0, e1]
    all_goals rfl
  obtain ⟨z, hz⟩ : ∃ z : Int, (n : Int) = z := ⟨_, rfl⟩
  have g1 : (256 : Int) ≤ z := by omega
  have g2 : z < 65536 := by omega
  rw [hz] at kk hP hl2 ⊢
  clear h1 h2 hz
  have HP := Lib.hid hP
  clear hP
  have HO := Lib.hid (fun (W : World) (B : Nat) (hB : B ≤ W.heap.size) => Own.lit W [UInt8.ofNat f] _ 1 B rfl hl1 hB (by decide))
  have HL := Lib.hid (fun W : World => BR.lit W 5 [130, UInt8.ofNat (n / 256), UInt8.ofNat n] _ 3 rfl hl2)
  clear hl1 hl2
  have o0 := HO.out (w.alloc (.cells #[.int .i64 c, .int .i64 t, .bool false, .int .i64 z] 28)) w.heap.size (by simp)
  simp only [World.size_alloc] at o0
  have k0 := kk.alloc (.cells #[.int .u8 (64 * c + t)] 5)
  have l0 := HL.out ((w.alloc (.cells #[.int .i64 c, .int .i64 t, .bool false, .int .i64 z] 28)).alloc (.cells #[.int .u8 (64 * c + t)] 5))
  simp only [World.size_alloc] at l0
  have O0 := Lib.hid (o0.kp ((Kp.refl (fun _ => False) _).alloc (.cells #[.int .u8 (130), .int .u8 (z / 256), .int .u8 (z % 256)] 5)) (fun _ _ h => h))
  have L0 := Lib.hid l0
  have K1 := Lib.hid (k0.alloc (.cells #[.int .u8 (130), .int .u8 (z / 256), .int .u8 (z % 256)] 5))
  clear o0 l0
  go_enter Tryd.func20, Tryd.ntmps20
  go_wp2_with (at_builtin; refine app_bytes rfl (.tmp 39) (.tmp 48) rfl w.heap.size _ 1 _ [UInt8.ofNat f] rfl rfl O0.out _ _ 3 _ [130, UInt8.ofNat (n / 256), UInt8.ofNat n] rfl rfl L0.out 4 rfl (by omega) (by simp; omega) ?_; intro A1 c1 W1 o1 q1)
  go_ret
  exact HP.out _ _ _ (o1.br rfl) (K1.out.then_ q1 (fun _ h => .inr h))

set_option maxRecDepth 100000 in
set_option maxHeartbeats 1600000 in
theorem rput_ok_f3 (w : World) (c t : Int) (n : Nat) (hk : kindB c t false = true) (h1 : 65536 ≤ n) (h2 : n < 16777216) : Calls Tryd.prog 20 #[.agg #[.int .i64 c, .int .i64 t, .bool false, .int .i64 n]] w (RPutP c t false n w) := by
  obtain ⟨hcc, ht0, ht1⟩ := kindB_cases hk
  obtain ⟨f, g, -, hf2, -, hhb, hg2, hf, hg⟩ := hb_first hk
  have kk : Kp (fun _ => False) w (w.alloc (.cells #[.int .i64 c, .int .i64 t, .bool false, .int .i64 n] 28)) := (Kp.refl _ _).alloc _
  have hpt : pt c t false n = (UInt8.ofNat f :: [131, UInt8.ofNat (n / 65536), UInt8.ofNat (n / 256), UInt8.ofNat n], 0) := by
    rw [pt, if_pos hk, if_neg (by omega), hhb, Int.toNat_natCast, lenB]
    simp only [if_neg (show ¬ n < 128 by omega), if_neg (show ¬ n < 256 by omega), if_neg (show ¬ n < 65536 by omega), beB, List.nil_append, List.cons_append, Nat.div_div_eq_div_mul]
    rfl
  have hP : ∀ A cp w', BR w' (w.heap.size ≤ ·) (.slice A 5 cp) (UInt8.ofNat f :: [131, UInt8.ofNat (n / 65536), UInt8.ofNat (n / 256), UInt8.ofNat n]) → Kp (fun _ => False) w w' → RPutP c t false n w (.returned (.slice A 5 cp)) w' := by
    intro A cp w' q1 q2
    rw [RPutP, hpt]
    exact ⟨A, cp, rfl, q1, q2⟩
  clear hk hpt hhb
  have hl1 : #[Value.int .u8 (64 * c + t)] = (bc [UInt8.ofNat f]).toArray := by
    simp only [bc, List.map_cons, List.map_nil, UInt8.toNat_ofNat']
    congr 3
    omega
  have hl2 : #[Value.int .u8 (131), .int .u8 ((n : Int) / 65536), .int .u8 ((n : Int) / 256 % 256), .int .u8 ((n : Int) % 256)] = (bc [131, UInt8.ofNat (n / 65536), UInt8.ofNat (n / 256), UInt8.ofNat n]).toArray := by
    simp only [bc, List.map_cons, List.map_nil, UInt8.toNat_ofNat']
    have e0 : ((n % 2 ^ 8 : Nat) : Int) = (n : Int) % 256 := by omega
    have e1 : ((n / 256 % 2 ^ 8 : Nat) : Int) = (n : Int) / 256 % 256 := by omega
    have e2 : ((n / 65536 % 2 ^ 8 : Nat) : Int) = (n : Int) / 65536 := by omega
    rw [e0, e1, e2]
    all_goals rfl
  obtain ⟨z, hz⟩ : ∃ z : Int, (n : Int) = z := ⟨_, rfl⟩
  have g1 : (65536 : Int) ≤ z := by omega
  have g2 : z < 16777216 := by omega
  rw [hz] at kk hP hl2 ⊢
  clear h1 h2 hz
  have HP := Lib.hid hP
  clear hP
  have HO := Lib.hid (fun (W : World) (B : Nat) (hB : B ≤ W.heap.size) => Own.lit W [UInt8.ofNat f] _ 1 B rfl hl1 hB (by decide))
  have HL := Lib.hid (fun W : World => BR.lit W 5 [131, UInt8.ofNat (n / 65536), UInt8.ofNat (n / 256), UInt8.ofNat n] _ 4 rfl hl2)
  clear hl1 hl2
  have o0 := HO.out (w.alloc (.cells #[.int .i64 c, .int .i64 t, .bool false, .int .i64 z] 28)) w.heap.size (by simp)
  simp only [World.size_alloc] at o0
  have k0 := kk.alloc (.cells #[.int .u8 (64 * c + t)] 5)
  have l0 := HL.out ((w.alloc (.cells #[.int .i64 c, .int .i64 t, .bool false, .int .i64 z] 28)).alloc (.cells #[.int .u8 (64 * c + t)] 5))
  simp only [World.size_alloc] at l0
  have O0 := Lib.hid (o0.kp ((Kp.refl (fun _ => False) _).alloc (.cells #[.int .u8 (131), .int .u8 (z / 65536), .int .u8 (z / 256 % 256), .int .u8 (z % 256)] 5)) (fun _ _ h => h))
  have L0 := Lib.hid l0
  have K1 := Lib.hid (k0.alloc (.cells #[.int .u8 (131), .int .u8 (z / 65536), .int .u8 (z / 256 % 256), .int .u8 (z % 256)] 5))
  clear o0 l0
  go_enter Tryd.func20, Tryd.ntmps20
  go_wp2_with (at_builtin; refine app_bytes rfl (.tmp 50) (.tmp 64) rfl w.heap.size _ 1 _ [UInt8.ofNat f] rfl rfl O0.out _ _ 4 _ [131, UInt8.ofNat (n / 65536), UInt8.ofNat (n / 256), UInt8.ofNat n] rfl rfl L0.out 5 rfl (by omega) (by simp; omega) ?_; intro A1 c1 W1 o1 q1)
  go_ret
  exact HP.out _ _ _ (o1.br rfl) (K1.out.then_ q1 (fun _ h => .inr h))

set_option maxRecDepth 100000 in
set_option maxHeartbeats 1600000 in
theorem rput_ok_t0 (w : World) (c t : Int) (n : Nat) (hk : kindB c t true = true) (h1 : 0 ≤ n) (h2 : n < 128) : Calls Tryd.prog 20 #[.agg #[.int .i64 c, .int .i64 t, .bool true, .int .i64 n]] w (RPutP c t true n w) := by
  obtain ⟨hcc, ht0, ht1⟩ := kindB_cases hk
  obtain ⟨f, g, -, hf2, -, hhb, hg2, hf, hg⟩ := hb_first hk
  have kk : Kp (fun _ => False) w (w.alloc (.cells #[.int .i64 c, .int .i64 t, .bool true, .int .i64 n] 28)) := (Kp.refl _ _).alloc _
  have hpt : pt c t true n = (UInt8.ofNat g :: [UInt8.ofNat n], 0) := by
    rw [pt, if_pos hk, if_neg (by omega), hhb, Int.toNat_natCast, lenB]
    simp only [if_pos h2]
    rfl
  have hP : ∀ A cp w', BR w' (w.heap.size ≤ ·) (.slice A 2 cp) (UInt8.ofNat g :: [UInt8.ofNat n]) → Kp (fun _ => False) w w' → RPutP c t true n w (.returned (.slice A 2 cp)) w' := by
    intro A cp w' q1 q2
    rw [RPutP, hpt]
    exact ⟨A, cp, rfl, q1, q2⟩
  clear hk hpt hhb
  have hl1 : #[Value.int .u8 (64 * c + t + 32)] = (bc [UInt8.ofNat g]).toArray := by
    simp only [bc, List.map_cons, List.map_nil, UInt8.toNat_ofNat']
    congr 3
    omega
  have hl2 : #[Value.int .u8 ((n : Int))] = (bc [UInt8.ofNat n]).toArray := by
    simp only [bc, List.map_cons, List.map_nil, UInt8.toNat_ofNat']
    have e0 : ((n % 2 ^ 8 : Nat) : Int) = (n : Int) := by omega
    rw [e0]
    all_goals rfl
  obtain ⟨z, hz⟩ : ∃ z : Int, (n : Int) = z := ⟨_, rfl⟩
  have g1 : (0 : Int) ≤ z := by omega
  have g2 : z < 128 := by omega
  rw [hz] at kk hP hl2 ⊢
  clear h1 h2 hz
  have HP := Lib.hid hP
  clear hP
  have HO := Lib.hid (fun (W : World) (B : Nat) (hB : B ≤ W.heap.size) => Own.lit W [UInt8.ofNat g] _ 1 B rfl hl1 hB (by decide))
  have HL := Lib.hid (fun W : World => BR.lit W 5 [UInt8.ofNat n] _ 1 rfl hl2)
  clear hl1 hl2
  have o0 := HO.out (w.alloc (.cells #[.int .i64 c, .int .i64 t, .bool true, .int .i64 z] 28)) w.heap.size (by simp)
  simp only [World.size_alloc] at o0
  have k0 := kk.alloc (.cells #[.int .u8 (64 * c + t + 32)] 5)
  have l0 := HL.out ((w.alloc (.cells #[.int .i64 c, .int .i64 t, .bool true, .int .i64 z] 28)).alloc (.cells #[.int .u8 (64 * c + t + 32)] 5))
  simp only [World.size_alloc] at l0
  have O0 := Lib.hid (o0.kp ((Kp.refl (fun _ => False) _).alloc (.cells #[.int .u8 (z)] 5)) (fun _ _ h => h))
  have L0 := Lib.hid l0
  have K1 := Lib.hid (k0.alloc (.cells #[.int .u8 (z)] 5))
  clear o0 l0
  go_enter Tryd.func20, Tryd.ntmps20
  go_wp2_with (at_builtin; refine app_bytes rfl (.tmp 21) (.tmp 25) rfl w.heap.size _ 1 _ [UInt8.ofNat g] rfl rfl O0.out _ _ 1 _ [UInt8.ofNat n] rfl rfl L0.out 2 rfl (by omega) (by simp; omega) ?_; intro A1 c1 W1 o1 q1)
  go_ret
  exact HP.out _ _ _ (o1.br rfl) (K1.out.then_ q1 (fun _ h => .inr h))

set_option maxRecDepth 100000 in
set_option maxHeartbeats 1600000 in
theorem rput_ok_t1 (w : World) (c t : Int) (n : Nat) (hk : kindB c t true = true) (h1 : 128 ≤ n) (h2 : n < 256) : Calls Tryd.prog 20 #[.agg #[.int .i64 c, .int .i64 t, .bool true, .int .i64 n]] w (RPutP c t true n w) := by
  obtain ⟨hcc, ht0, ht1⟩ := kindB_cases hk
  obtain ⟨f, g, -, hf2, -, hhb, hg2, hf, hg⟩ := hb_first hk
  have kk : Kp (fun _ => False) w (w.alloc (.cells #[.int .i64 c, .int .i64 t, .bool true, .int .i64 n] 28)) := (Kp.refl _ _).alloc _
  have hpt : pt c t true n = (UInt8.ofNat g :: [129, UInt8.ofNat n], 0) := by
    rw [pt, if_pos hk, if_neg (by omega), hhb, Int.toNat_natCast, lenB]
    simp only [if_neg (show ¬ n < 128 by omega), if_pos h2]
    rfl
  have hP : ∀ A cp w', BR w' (w.heap.size ≤ ·) (.slice A 3 cp) (UInt8.ofNat g :: [129, UInt8.ofNat n]) → Kp (fun _ => False) w w' → RPutP c t true n w (.returned (.slice A 3 cp)) w' := by
    intro A cp w' q1 q2
    rw [RPutP, hpt]
    exact ⟨A, cp, rfl, q1, q2⟩
  clear hk hpt hhb
  have hl1 : #[Value.int .u8 (64 * c + t + 32)] = (bc [UInt8.ofNat g]).toArray := by
    simp only [bc, List.map_cons, List.map_nil, UInt8.toNat_ofNat']
    congr 3
    omega
  have hl2 : #[Value.int .u8 (129), .int .u8 ((n : Int))] = (bc [129, UInt8.ofNat n]).toArray := by
    simp only [bc, List.map_cons, List.map_nil, UInt8.toNat_ofNat']
    have e0 : ((n % 2 ^ 8 : Nat) : Int) = (n : Int) := by omega
    rw [e0]
    all_goals rfl
  obtain ⟨z, hz⟩ : ∃ z : Int, (n : Int) = z := ⟨_, rfl⟩
  have g1 : (128 : Int) ≤ z := by omega
  have g2 : z < 256 := by omega
  rw [hz] at kk hP hl2 ⊢
  clear h1 h2 hz
  have HP := Lib.hid hP
  clear hP
  have HO := Lib.hid (fun (W : World) (B : Nat) (hB : B ≤ W.heap.size) => Own.lit W [UInt8.ofNat g] _ 1 B rfl hl1 hB (by decide))
  have HL := Lib.hid (fun W : World => BR.lit W 5 [129, UInt8.ofNat n] _ 2 rfl hl2)
  clear hl1 hl2
  have o0 := HO.out (w.alloc (.cells #[.int .i64 c, .int .i64 t, .bool true, .int .i64 z] 28)) w.heap.size (by simp)
  simp only [World.size_alloc] at o0
  have k0 := kk.alloc (.cells #[.int .u8 (64 * c + t + 32)] 5)
  have l0 := HL.out ((w.alloc (.cells #[.int .i64 c, .int .i64 t, .bool true, .int .i64 z] 28)).alloc (.cells #[.int .u8 (64 * c + t + 32)] 5))
  simp only [World.size_alloc] at l0
  have O0 := Lib.hid (o0.kp ((Kp.refl (fun _ => False) _).alloc (.cells #[.int .u8 (129), .int .u8 (z)] 5)) (fun _ _ h => h))
  have L0 := Lib.hid l0
  have K1 := Lib.hid (k0.alloc (.cells #[.int .u8 (129), .int .u8 (z)] 5))
  clear o0 l0
  go_enter Tryd.func20, Tryd.ntmps20
  go_wp2_with (at_builtin; refine app_bytes rfl (.tmp 30) (.tmp 34) rfl w.heap.size _ 1 _ [UInt8.ofNat g] rfl rfl O0.out _ _ 2 _ [129, UInt8.ofNat n] rfl rfl L0.out 3 rfl (by omega) (by simp; omega) ?_; intro A1 c1 W1 o1 q1)
  go_ret
  exact HP.out _ _ _ (o1.br rfl) (K1.out.then_ q1 (fun _ h => .inr h))

set_option maxRecDepth 100000 in
set_option maxHeartbeats 1600000 in
theorem rput_ok_t2 (w : World) (c t : Int) (n : Nat) (hk : kindB c t true = true) (h1 : 256 ≤ n) (h2 : n < 65536) : Calls Tryd.prog 20 #[.agg #[.int .i64 c, .int .i64 t, .bool true, .int .i64 n]] w (RPutP c t true n w) := by
  obtain ⟨hcc, ht0, ht1⟩ := kindB_cases hk
  obtain ⟨f, g, -, hf2, -, hhb, hg2, hf, hg⟩ := hb_first hk
  have kk : Kp (fun _ => False) w (w.alloc (.cells #[.int .i64 c, .int .i64 t, .bool true, .int .i64 n] 28)) := (Kp.refl _ _).alloc _
  have hpt : pt c t true n = (UInt8.ofNat g :: [130, UInt8.ofNat (n / 256), UInt8.ofNat n], 0) := by
    rw [pt, if_pos hk, if_neg (by omega), hhb, Int.toNat_natCast, lenB]
    simp only [if_neg (show ¬ n < 128 by omega), if_neg (show ¬ n < 256 by omega), if_pos h2, beB, List.nil_append, List.cons_append]
    rfl
  have hP : ∀ A cp w', BR w' (w.heap.size ≤ ·) (.slice A 4 cp) (UInt8.ofNat g :: [130, UInt8.ofNat (n / 256), UInt8.ofNat n]) → Kp (fun _ => False) w w' → RPutP c t true n w (.returned (.slice A 4 cp)) w' := by
    intro A cp w' q1 q2
    rw [RPutP, hpt]
    exact ⟨A, cp, rfl, q1, q2⟩
  clear hk hpt hhb
  have hl1 : #[Value.int .u8 (64 * c + t + 32)] = (bc [UInt8.ofNat g]).toArray := by
    simp only [bc, List.map_cons, List.map_nil, UInt8.toNat_ofNat']
    congr 3
    omega
  have hl2 : #[Value.int .u8 (130), .int .u8 ((n : Int) / 256), .int .u8 ((n : Int) % 256)] = (bc [130, UInt8.ofNat (n / 256), UInt8.ofNat n]).toArray := by
    simp only [bc, List.map_cons, List.map_nil, UInt8.toNat_ofNat']
    have e0 : ((n % 2 ^ 8 : Nat) : Int) = (n : Int) % 256 := by omega
    have e1 : ((n / 256 % 2 ^ 8 : Nat) : Int) = (n : Int) / 256 := by omega
    rw [e0, e1]
    all_goals rfl
  obtain ⟨z, hz⟩ : ∃ z : Int, (n : Int) = z := ⟨_, rfl⟩
  have g1 : (256 : Int) ≤ z := by omega
  have g2 : z < 65536 := by omega
  rw [hz] at kk hP hl2 ⊢
  clear h1 h2 hz
  have HP := Lib.hid hP
  clear hP
  have HO := Lib.hid (fun (W : World) (B : Nat) (hB : B ≤ W.heap.size) => Own.lit W [UInt8.ofNat g] _ 1 B rfl hl1 hB (by decide))
  have HL := Lib.hid (fun W : World => BR.lit W 5 [130, UInt8.ofNat (n / 256), UInt8.ofNat n] _ 3 rfl hl2)
  clear hl1 hl2
  have o0 := HO.out (w.alloc (.cells #[.int .i64 c, .int .i64 t, .bool true, .int .i64 z] 28)) w.heap.size (by simp)
  simp only [World.size_alloc] at o0
  have k0 := kk.alloc (.cells #[.int .u8 (64 * c + t + 32)] 5)
  have l0 := HL.out ((w.alloc (.cells #[.int .i64 c, .int .i64 t, .bool true, .int .i64 z] 28)).alloc (.cells #[.int .u8 (64 * c + t + 32)] 5))
  simp only [World.size_alloc] at l0
  have O0 := Lib.hid (o0.kp ((Kp.refl (fun _ => False) _).alloc (.cells #[.int .u8 (130), .int .u8 (z / 256), .int .u8 (z % 256)] 5)) (fun _ _ h => h))
  have L0 := Lib.hid l0
  have K1 := Lib.hid (k0.alloc (.cells #[.int .u8 (130), .int .u8 (z / 256), .int .u8 (z % 256)] 5))
  clear o0 l0
  go_enter Tryd.func20, Tryd.ntmps20
  go_wp2_with (at_builtin; refine app_bytes rfl (.tmp 39) (.tmp 48) rfl w.heap.size _ 1 _ [UInt8.ofNat g] rfl rfl O0.out _ _ 3 _ [130, UInt8.ofNat (n / 256), UInt8.ofNat n] rfl rfl L0.out 4 rfl (by omega) (by simp; omega) ?_; intro A1 c1 W1 o1 q1)
  go_ret
  exact HP.out _ _ _ (o1.br rfl) (K1.out.then_ q1 (fun _ h => .inr h))

set_option maxRecDepth 100000 in
set_option maxHeartbeats 1600000 in
theorem rput_ok_t3 (w : World) (c t : Int) (n : Nat) (hk : kindB c t true = true) (h1 : 65536 ≤ n) (h2 : n < 16777216) : Calls Tryd.prog 20 #[.agg #[.int .i64 c, .int .i64 t, .bool true, .int .i64 n]] w (RPutP c t true n w) := by
  obtain ⟨hcc, ht0, ht1⟩ := kindB_cases hk
  obtain ⟨f, g, -, hf2, -, hhb, hg2, hf, hg⟩ := hb_first hk
  have kk : Kp (fun _ => False) w (w.alloc (.cells #[.int .i64 c, .int .i64 t, .bool true, .int .i64 n] 28)) := (Kp.refl _ _).alloc _
  have hpt : pt c t true n = (UInt8.ofNat g :: [131, UInt8.ofNat (n / 65536), UInt8.ofNat (n / 256), UInt8.ofNat n], 0) := by
    rw [pt, if_pos hk, if_neg (by omega), hhb, Int.toNat_natCast, lenB]
    simp only [if_neg (show ¬ n < 128 by omega), if_neg (show ¬ n < 256 by omega), if_neg (show ¬ n < 65536 by omega), beB, List.nil_append, List.cons_append, Nat.div_div_eq_div_mul]
    rfl
  have hP : ∀ A cp w', BR w' (w.heap.size ≤ ·) (.slice A 5 cp) (UInt8.ofNat g :: [131, UInt8.ofNat (n / 65536), UInt8.ofNat (n / 256), UInt8.ofNat n]) → Kp (fun _ => False) w w' → RPutP c t true n w (.returned (.slice A 5 cp)) w' := by
    intro A cp w' q1 q2
    rw [RPutP, hpt]
    exact ⟨A, cp, rfl, q1, q2⟩
  clear hk hpt hhb
  have hl1 : #[Value.int .u8 (64 * c + t + 32)] = (bc [UInt8.ofNat g]).toArray := by
    simp only [bc, List.map_cons, List.map_nil, UInt8.toNat_ofNat']
    congr 3
    omega
  have hl2 : #[Value.int .u8 (131), .int .u8 ((n : Int) / 65536), .int .u8 ((n : Int) / 256 % 256), .int .u8 ((n : Int) % 256)] = (bc [131, UInt8.ofNat (n / 65536), UInt8.ofNat (n / 256), UInt8.ofNat n]).toArray := by
    simp only [bc, List.map_cons, List.map_nil, UInt8.toNat_ofNat']
    have e0 : ((n % 2 ^ 8 : Nat) : Int) = (n : Int) % 256 := by omega
    have e1 : ((n / 256 % 2 ^ 8 : Nat) : Int) = (n : Int) / 256 % 256 := by omega
    have e2 : ((n / 65536 % 2 ^ 8 : Nat) : Int) = (n : Int) / 65536 := by omega
    rw [e0, e1, e2]
    all_goals rfl
  obtain ⟨z, hz⟩ : ∃ z : Int, (n : Int) = z := ⟨_, rfl⟩
  have g1 : (65536 : Int) ≤ z := by omega
  have g2 : z < 16777216 := by omega
  rw [hz] at kk hP hl2 ⊢
  clear h1 h2 hz
  have HP := Lib.hid hP
  clear hP
  have HO := Lib.hid (fun (W : World) (B : Nat) (hB : B ≤ W.heap.size) => Own.lit W [UInt8.ofNat g] _ 1 B rfl hl1 hB (by decide))
  have HL := Lib.hid (fun W : World => BR.lit W 5 [131, UInt8.ofNat (n / 65536), UInt8.ofNat (n / 256), UInt8.ofNat n] _ 4 rfl hl2)
  clear hl1 hl2
  have o0 := HO.out (w.alloc (.cells #[.int .i64 c, .int .i64 t, .bool true, .int .i64 z] 28)) w.heap.size (by simp)
  simp only [World.size_alloc] at o0
  have k0 := kk.alloc (.cells #[.int .u8 (64 * c + t + 32)] 5)
  have l0 := HL.out ((w.alloc (.cells #[.int .i64 c, .int .i64 t, .bool true, .int .i64 z] 28)).alloc (.cells #[.int .u8 (64 * c + t + 32)] 5))
  simp only [World.size_alloc] at l0
  have O0 := Lib.hid (o0.kp ((Kp.refl (fun _ => False) _).alloc (.cells #[.int .u8 (131), .int .u8 (z / 65536), .int .u8 (z / 256 % 256), .int .u8 (z % 256)] 5)) (fun _ _ h => h))
  have L0 := Lib.hid l0
  have K1 := Lib.hid (k0.alloc (.cells #[.int .u8 (131), .int .u8 (z / 65536), .int .u8 (z / 256 % 256), .int .u8 (z % 256)] 5))
  clear o0 l0
  go_enter Tryd.func20, Tryd.ntmps20
  go_wp2_with (at_builtin; refine app_bytes rfl (.tmp 50) (.tmp 64) rfl w.heap.size _ 1 _ [UInt8.ofNat g] rfl rfl O0.out _ _ 4 _ [131, UInt8.ofNat (n / 65536), UInt8.ofNat (n / 256), UInt8.ofNat n] rfl rfl L0.out 5 rfl (by omega) (by simp; omega) ?_; intro A1 c1 W1 o1 q1)
  go_ret
  exact HP.out _ _ _ (o1.br rfl) (K1.out.then_ q1 (fun _ h => .inr h))

theorem rput_any (w : World) (c t : Int) (m : Bool) (N : Nat) (hk : kindB c t m = true) (hN : N ≤ 16777215) : Calls Tryd.prog 20 #[.agg #[.int .i64 c, .int .i64 t, .bool m, .int .i64 N]] w (RPutP c t m N w) := by
  cases m
  · rcases Nat.lt_or_ge N 128 with h | h
    · exact rput_ok_f0 w c t N hk (Nat.zero_le _) h
    rcases Nat.lt_or_ge N 256 with h' | h'
    · exact rput_ok_f1 w c t N hk h h'
    rcases Nat.lt_or_ge N 65536 with h'' | h''
    · exact rput_ok_f2 w c t N hk h' h''
    · exact rput_ok_f3 w c t N hk h'' (by omega)
  · rcases Nat.lt_or_ge N 128 with h | h
    · exact rput_ok_t0 w c t N hk (Nat.zero_le _) h
    rcases Nat.lt_or_ge N 256 with h' | h'
    · exact rput_ok_t1 w c t N hk h h'
    rcases Nat.lt_or_ge N 65536 with h'' | h''
    · exact rput_ok_t2 w c t N hk h' h''
    · exact rput_ok_t3 w c t N hk h'' (by omega)

end Go.Proofs.YtjdfgjlbmbiihaaDoor
