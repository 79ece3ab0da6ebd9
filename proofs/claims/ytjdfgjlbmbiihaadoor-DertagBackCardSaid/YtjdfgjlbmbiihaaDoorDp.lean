/-
  dertag.Put: the bytes of a head.
-/
import Derived.Test.YtjdfgjlbmbiihaaDoorDr1
import Derived.Test.YtjdfgjlbmbiihaaDoorLib3
import Derived.Lib.Strings
import Derived.Lib.Slices
import Derived.Lib.Small
import Derived.Lib.Walk
import Derived.Lib.BitFns
namespace Go.Proofs.YtjdfgjlbmbiihaaDoor
open Go.RowKit

theorem bitLen_ge1 : ∀ n : Fin 256, n.val ≠ 0 → 1 ≤ Lib.bitLen n.val := by decide +kernel
theorem bitLen_top : ∀ n : Fin 256, 128 ≤ n.val → Lib.bitLen n.val = 8 := by decide +kernel

set_option maxHeartbeats 4000000 in
set_option maxRecDepth 100000 in
theorem len64_any (x : Int) (w : World) (h0 : 0 ≤ x) (h1 : x ≤ 16777215) :
    Calls Tryd.prog 48 #[.int .u64 x] w fun e w' => e = .returned (.int .i64 (Lib.bitLen x.toNat)) ∧ w = w' := by
  have h2 : x ≤ 255 ∨ (256 ≤ x ∧ x ≤ 65535) ∨ 65536 ≤ x := by omega
  rcases h2 with h2 | ⟨h2, h3⟩ | h2
  · go_enter Tryd.func48, Tryd.ntmps48
    go_wp2
    go_ret
    refine ⟨congrArg Ending.returned (congrArg (Value.int IntKind.i64) ?_), rfl⟩
    rw [Lib.len8_of x h0 h2]
    have l := Lib.bitLen_le8' x h0 h2
    simp only [wrap64]
    omega
  · have h4 : 0 ≤ x / 256 := by omega
    have h5 : x / 256 ≤ 255 := by omega
    go_enter Tryd.func48, Tryd.ntmps48
    go_wp2
    go_ret
    refine ⟨congrArg Ending.returned (congrArg (Value.int IntKind.i64) ?_), rfl⟩
    rw [Lib.len8_of (x / 256) h4 h5]
    have l := Lib.bitLen_le8' (x / 256) h4 h5
    have e : (x / 256).toNat = x.toNat / 256 := by omega
    have s := Lib.bitLen_shift8 x.toNat (by omega) (by omega)
    rw [e] at l ⊢
    simp only [wrap64]
    omega
  · have h4 : 0 ≤ x / 65536 := by omega
    have h5 : x / 65536 ≤ 255 := by omega
    go_enter Tryd.func48, Tryd.ntmps48
    go_wp2
    go_ret
    refine ⟨congrArg Ending.returned (congrArg (Value.int IntKind.i64) ?_), rfl⟩
    rw [Lib.len8_of (x / 65536) h4 h5]
    have l := Lib.bitLen_le8' (x / 65536) h4 h5
    have e : (x / 65536).toNat = x.toNat / 65536 := by omega
    have s := Lib.bitLen_shift16 x.toNat (by omega) (by omega)
    rw [e] at l ⊢
    simp only [wrap64]
    omega

theorem len_any (x : Int) (w : World) (h0 : 0 ≤ x) (h1 : x ≤ 16777215) :
    Calls Tryd.prog 34 #[.int .u64 x] w fun e w' => e = .returned (.int .i64 (Lib.bitLen x.toNat)) ∧ w = w' := by
  go_enter Tryd.func34, Tryd.ntmps34
  go_wp2_with (go_at_call 48; ((with_reducible refine (len64_any _ _ h0 h1).mono ?_); rintro e w' ⟨rfl, rfl⟩))
  go_ret
  exact ⟨rfl, rfl⟩

/-- So many bytes have the lengths from 128 on. -/
theorem len_bytes (n : Nat) (h : 128 ≤ n) (h1 : n ≤ 16777215) : ∃ L : Nat, Lib.bitLen n = L ∧ (L + 7) / 8 = (if n < 256 then 1 else if n < 65536 then 2 else 3) := by
  refine ⟨_, rfl, ?_⟩
  split
  · rw [show Lib.bitLen n = 8 from bitLen_top ⟨n, by omega⟩ h]
  · split
    · have s := Lib.bitLen_shift8 n (by omega) (by omega)
      have l := Lib.bitLen_le8 ⟨n / 256, by omega⟩
      have g := bitLen_ge1 ⟨n / 256, by omega⟩ (show n / 256 ≠ 0 by omega)
      simp only at l g
      omega
    · have s := Lib.bitLen_shift16 n (by omega) (by omega)
      have l := Lib.bitLen_le8 ⟨n / 65536, by omega⟩
      have g := bitLen_ge1 ⟨n / 65536, by omega⟩ (show n / 65536 ≠ 0 by omega)
      simp only at l g
      omega

/-! ### A head's bytes. -/
def hb (c t : Int) (m : Bool) : UInt8 := UInt8.ofNat (c * 64 + t + if m then 32 else 0).toNat
def lenB (n : Nat) : List UInt8 := if n < 128 then [UInt8.ofNat n] else if n < 256 then [129, UInt8.ofNat n] else if n < 65536 then 130 :: beB 2 n else 131 :: beB 3 n
def pt (c t : Int) (m : Bool) (n : Int) : List UInt8 × Int :=
  if kindB c t m then (if n < 0 ∨ 16777215 < n then ([], 5) else (hb c t m :: lenB n.toNat, 0)) else ([], 13)
def PutP (c t : Int) (m : Bool) (n : Int) (w : World) (e : Ending) (w' : World) : Prop :=
  ∃ A cp, e = .returned (.tuple #[.slice A (pt c t m n).1.length cp, .int .i64 (pt c t m n).2]) ∧ BR w' (w.heap.size ≤ ·) (.slice A (pt c t m n).1.length cp) (pt c t m n).1 ∧ Kp (fun _ => False) w w'

theorem kindB_cases {c t : Int} {m : Bool} (h : kindB c t m = true) : (c = 0 ∨ c = 2) ∧ 0 ≤ t ∧ t ≤ 30 := by
  simp only [kindB, Bool.or_eq_true, Bool.and_eq_true, decide_eq_true_eq, beq_iff_eq] at h
  rcases h with ⟨h1, h2⟩ | ⟨h1, h2⟩
  · exact ⟨.inr h1, h2⟩
  · refine ⟨.inl h1, ?_⟩
    cases m <;> simp [madeT, plainT] at h2 <;> omega

set_option maxRecDepth 100000 in
theorem put_bad (w : World) (ht : Tab w) (c t : Int) (m : Bool) (n : Int) (hk : kindB c t m = false) : Calls Tryd.prog 18 #[.agg #[.int .i64 c, .int .i64 t, .bool m, .int .i64 n]] w (PutP c t m n w) := by
  have kk : Kp (fun _ => False) w (w.alloc (.cells #[.int .i64 c, .int .i64 t, .bool m, .int .i64 n] 24)) := (Kp.refl _ _).alloc _
  have hP : PutP c t m n w (.returned (.tuple #[.slice none 0 0, .int .i64 13])) (w.alloc (.cells #[.int .i64 c, .int .i64 t, .bool m, .int .i64 n] 24)) := by
    rw [PutP, show pt c t m n = ([], 13) from by rw [pt, if_neg (by rw [hk]; decide)]]
    exact ⟨none, 0, rfl, BR.nil, kk⟩
  have HP := Lib.hid hP
  have HK := Lib.hid hk
  clear hP hk
  go_enter Tryd.func18, Tryd.ntmps18
  go_wp2_with fail
  refine (kind_any _ _ _ _ (ht.kp kk)).mono ?_
  rintro e w2 ⟨rfl, rfl⟩
  rw [if_neg (by rw [HK.out]; decide)]
  go_wp2_with fail
  go_ret2
  exact HP.out

set_option maxRecDepth 100000 in
theorem put_len (w : World) (ht : Tab w) (c t : Int) (m : Bool) (n : Int) (hk : kindB c t m = true) (hn : n < 0 ∨ 16777215 < n) : Calls Tryd.prog 18 #[.agg #[.int .i64 c, .int .i64 t, .bool m, .int .i64 n]] w (PutP c t m n w) := by
  have kk : Kp (fun _ => False) w (w.alloc (.cells #[.int .i64 c, .int .i64 t, .bool m, .int .i64 n] 24)) := (Kp.refl _ _).alloc _
  have hP : PutP c t m n w (.returned (.tuple #[.slice none 0 0, .int .i64 5])) (w.alloc (.cells #[.int .i64 c, .int .i64 t, .bool m, .int .i64 n] 24)) := by
    rw [PutP, show pt c t m n = ([], 5) from by rw [pt, if_pos hk, if_pos hn]]
    exact ⟨none, 0, rfl, BR.nil, kk⟩
  have HP := Lib.hid hP
  have HK := Lib.hid hk
  have hn2 : n < 0 ∨ 0 ≤ n ∧ 16777215 < n := by omega
  clear hP hk hn
  rcases hn2 with hn2 | ⟨hn2, hn3⟩
  all_goals
    go_enter Tryd.func18, Tryd.ntmps18
    go_wp2_with fail
    refine (kind_any _ _ _ _ (ht.kp kk)).mono ?_
    rintro e w2 ⟨rfl, rfl⟩
    rw [if_pos HK.out]
    go_wp2_with fail
    go_ret2
    exact HP.out

/-- The first byte, as it is made. -/
theorem hb_first {c t : Int} {m : Bool} (h : kindB c t m = true) : ∃ f g : Nat, bits .or .i64 (c * 64) t = f ∧ f < 256 ∧ bits .or .u8 (f : Int) 32 = g ∧ hb c t m = UInt8.ofNat (if m then g else f) ∧ g < 256 ∧ (f : Int) = c * 64 + t ∧ g = f + 32 := by
  obtain ⟨hc, h0, h1⟩ := kindB_cases h
  obtain ⟨T, rfl⟩ := Int.eq_ofNat_of_zero_le h0
  have hT : T < 32 := by omega
  have key : ∀ C : Nat, C = 0 ∨ C = 2 → (C * 64 ||| T = C * 64 + T) ∧ ((C * 64 + T) ||| 32 = C * 64 + T + 32) := by
    rintro C (rfl | rfl)
    · refine ⟨by simp, ?_⟩
      have := Nat.two_pow_add_eq_or_of_lt (i := 5) (b := T) (by omega) 1
      simp only [Nat.zero_mul, Nat.zero_add]
      rw [Nat.or_comm, show (32 : Nat) = 2 ^ 5 * 1 from rfl, ← this]
      omega
    · have a1 := Nat.two_pow_add_eq_or_of_lt (i := 7) (b := T) (by omega) 1
      have a2 := Nat.two_pow_add_eq_or_of_lt (i := 5) (b := T) (by omega) 1
      have e1 : 2 * 64 ||| T = 2 * 64 + T := by
        rw [show (2 * 64 : Nat) = 2 ^ 7 * 1 from rfl, ← a1]
      refine ⟨e1, ?_⟩
      rw [← e1, Nat.or_assoc, Nat.or_comm T 32, show (32 : Nat) = 2 ^ 5 * 1 from rfl, ← a2, show (2 * 64 : Nat) = 2 ^ 7 * 1 from rfl, ← Nat.two_pow_add_eq_or_of_lt (i := 7) (by omega) 1, e1]
      omega
  obtain ⟨C, rfl, hC⟩ : ∃ C : Nat, c = C ∧ (C = 0 ∨ C = 2) := by
    rcases hc with rfl | rfl
    · exact ⟨0, rfl, .inl rfl⟩
    · exact ⟨2, rfl, .inr rfl⟩
  obtain ⟨k1, k2⟩ := key C hC
  have b1 : C * 64 + T < 256 := by omega
  refine ⟨C * 64 + T, C * 64 + T + 32, ?_, b1, ?_, ?_, by omega, by omega, rfl⟩
  · rw [show ((C : Int) * 64) = ((C * 64 : Nat) : Int) from by omega, i64_or_nat _ _ (by omega) (by omega), k1]
  · rw [show (32 : Int) = ((32 : Nat) : Int) from rfl, u8_or_nat _ _ b1 (by omega), k2]
  · rw [hb]
    congr 1
    cases m <;> simp <;> omega

set_option maxRecDepth 100000 in
set_option maxHeartbeats 1600000 in
theorem put_ok_f0 (w : World) (ht : Tab w) (c t : Int) (n : Nat) (hk : kindB c t false = true) (h1 : 0 ≤ n) (h2 : n < 128) : Calls Tryd.prog 18 #[.agg #[.int .i64 c, .int .i64 t, .bool false, .int .i64 n]] w (PutP c t false n w) := by
  obtain ⟨hcc, ht0, ht1⟩ := kindB_cases hk
  obtain ⟨f, g, hf, hf2, hg, hhb, hg2, -, -⟩ := hb_first hk
  have kk : Kp (fun _ => False) w (w.alloc (.cells #[.int .i64 c, .int .i64 t, .bool false, .int .i64 n] 24)) := (Kp.refl _ _).alloc _
  have hpt : pt c t false n = (UInt8.ofNat f :: [UInt8.ofNat n], 0) := by
    rw [pt, if_pos hk, if_neg (by omega), hhb, Int.toNat_natCast, lenB]
    simp only [if_pos h2]
    rfl
  have hP : ∀ A cp w', BR w' (w.heap.size ≤ ·) (.slice A 2 cp) (UInt8.ofNat f :: [UInt8.ofNat n]) → Kp (fun _ => False) w w' → PutP c t false n w (.returned (.tuple #[.slice A 2 cp, .int .i64 0])) w' := by
    intro A cp w' q1 q2
    rw [PutP, hpt]
    exact ⟨A, cp, rfl, q1, q2⟩
  have HP := Lib.hid hP
  have HK := Lib.hid hk
  clear hP hk hpt hhb
  have hF : (UInt8.ofNat f).toNat = f := by rw [UInt8.toNat_ofNat']; omega
  have hlit : #[Value.int .u8 (f : Int), .int .u8 (n : Int)] = (bc [UInt8.ofNat f, UInt8.ofNat n]).toArray := by
    simp only [bc, List.map_cons, List.map_nil, hF, UInt8.toNat_ofNat', show n % 2 ^ 8 = n from by omega]
  have HB := Lib.hid (fun W : World => BR.lit W 5 [UInt8.ofNat f, UInt8.ofNat n] _ 2 rfl hlit)
  clear hlit hF
  go_enter Tryd.func18, Tryd.ntmps18
  go_wp2_with fail
  refine (kind_any _ _ _ _ (ht.kp kk)).mono ?_
  rintro e w2 ⟨rfl, rfl⟩
  rw [if_pos HK.out]
  go_wp2_with fail
  go_ret2
  refine HP.out _ _ _ ?_ (kk.alloc _)
  have := HB.out (w.alloc (.cells #[.int .i64 c, .int .i64 t, .bool false, .int .i64 n] 24))
  simp only [World.size_alloc] at this
  exact this.mono (fun i hi => by subst hi; (try simp); (try omega))

set_option maxRecDepth 100000 in
set_option maxHeartbeats 1600000 in
theorem put_ok_f1 (w : World) (ht : Tab w) (c t : Int) (n : Nat) (hk : kindB c t false = true) (h1 : 128 ≤ n) (h2 : n < 256) : Calls Tryd.prog 18 #[.agg #[.int .i64 c, .int .i64 t, .bool false, .int .i64 n]] w (PutP c t false n w) := by
  obtain ⟨hcc, ht0, ht1⟩ := kindB_cases hk
  obtain ⟨f, g, hf, hf2, hg, hhb, hg2, -, -⟩ := hb_first hk
  have kk : Kp (fun _ => False) w (w.alloc (.cells #[.int .i64 c, .int .i64 t, .bool false, .int .i64 n] 24)) := (Kp.refl _ _).alloc _
  have hpt : pt c t false n = (UInt8.ofNat f :: [129, UInt8.ofNat n], 0) := by
    rw [pt, if_pos hk, if_neg (by omega), hhb, Int.toNat_natCast, lenB]
    simp only [if_neg (show ¬ n < 128 by omega), if_pos h2]
    rfl
  have hP : ∀ A cp w', BR w' (w.heap.size ≤ ·) (.slice A 3 cp) (UInt8.ofNat f :: [129, UInt8.ofNat n]) → Kp (fun _ => False) w w' → PutP c t false n w (.returned (.tuple #[.slice A 3 cp, .int .i64 0])) w' := by
    intro A cp w' q1 q2
    rw [PutP, hpt]
    exact ⟨A, cp, rfl, q1, q2⟩
  have HP := Lib.hid hP
  have HK := Lib.hid hk
  clear hP hk hpt hhb
  have hF : (UInt8.ofNat f).toNat = f := by rw [UInt8.toNat_ofNat']; omega
  obtain ⟨L, hL, hL8⟩ := len_bytes n (by omega) (by omega)
  rw [if_pos h2] at hL8
  have d1 : ((L : Int) + 7).tdiv 8 = 1 := by rw [Int.tdiv_eq_ediv_of_nonneg (by omega)]; omega
  have d2 : ((L : Int) + 7) / 8 = 1 := by omega
  have hL64 : L ≤ 64 := by omega
  have o1 : bits .or .i64 128 1 = 129 := by decide
  have hlit : #[Value.int .u8 (f : Int), .int .u8 129] = (bc [UInt8.ofNat f, 129]).toArray := by
    simp only [bc, List.map_cons, List.map_nil, hF]
    rfl
  have HO := Lib.hid (fun (W : World) (B : Nat) (hB : B ≤ W.heap.size) => Own.lit W [UInt8.ofNat f, 129] _ 2 B rfl hlit hB (by decide))
  have hl0 : #[Value.int .u8 ((n : Int))] = (bc [UInt8.ofNat (n)]).toArray := by
    simp only [bc, List.map_cons, List.map_nil, UInt8.toNat_ofNat']
    congr 3
    try omega
  have HL0 := Lib.hid (fun W : World => BR.lit W 5 [UInt8.ofNat (n)] _ 1 rfl hl0)
  clear hlit hF hL8 hl0
  have HLen := Lib.hid hL
  clear hL
  go_enter Tryd.func18, Tryd.ntmps18
  go_wp2_with fail
  refine (kind_any _ _ _ _ (ht.kp kk)).mono ?_
  rintro e w2 ⟨rfl, rfl⟩
  rw [if_pos HK.out]
  go_wp2_with fail
  refine (len_any _ _ (by omega) (by omega)).mono ?_
  rw [Int.toNat_natCast, HLen.out]
  rintro e w2 ⟨rfl, rfl⟩
  go_wp2_with fail
  refine wp_loop_rounds 2 ?_
  have o0 := HO.out (w.alloc (.cells #[.int .i64 c, .int .i64 t, .bool false, .int .i64 n] 24)) (w.heap.size + 1) (by simp)
  simp only [World.size_alloc] at o0
  have b0 := (Blk.new w 24 #[.int .i64 c, .int .i64 t, .bool false, .int .i64 n]).alloc (.cells #[.int .u8 (f : Int), .int .u8 129] 5)
  have k0 := kk.alloc (.cells #[.int .u8 (f : Int), .int .u8 129] 5)
  have z0 : w.heap.size + 1 ≤ ((w.alloc (.cells #[.int .i64 c, .int .i64 t, .bool false, .int .i64 n] 24)).alloc (.cells #[.int .u8 (f : Int), .int .u8 129] 5)).heap.size := by simp
  generalize (w.alloc (.cells #[.int .i64 c, .int .i64 t, .bool false, .int .i64 n] 24)).alloc (.cells #[.int .u8 (f : Int), .int .u8 129] 5) = W0 at o0 b0 k0 z0 ⊢
  have c0 := b0.cell 3
  have O0 := Lib.hid (o0.kp ((Kp.refl (fun _ => False) W0).alloc (.cells #[.int .u8 ((n : Int))] 5)) (fun _ _ h => h))
  rw [rounds_succ]
  go_wp2_with (at_builtin; refine app_bytes rfl (.tmp 63) (.tmp 70) rfl (w.heap.size + 1) _ 2 _ [UInt8.ofNat f, 129] rfl rfl O0.out (· = W0.heap.size) _ 1 1 [UInt8.ofNat (n)] rfl rfl (HL0.out W0) 3 rfl (by omega) (by simp; omega) ?_; intro A1 c1' W1 o1 q1)
  have k1 := k0.then_ (((Kp.refl _ _).alloc (.cells #[.int .u8 ((n : Int))] 5)).then_ (S := (w.heap.size + 1 ≤ ·)) q1 (fun _ h => .inl h)) (fun i hi => .inr (by omega))
  have b1 := (b0.alloc (.cells #[.int .u8 ((n : Int))] 5)).kp q1 (by omega)
  have z1 : w.heap.size + 1 ≤ W1.heap.size := by have := q1.size; simp at this; omega
  rw [rounds_succ]
  go_wp2_with fail
  go_ret2
  exact HP.out _ _ _ ((o1.br rfl).mono (fun i hi => by omega)) k1

set_option maxRecDepth 100000 in
set_option maxHeartbeats 1600000 in
theorem put_ok_f2 (w : World) (ht : Tab w) (c t : Int) (n : Nat) (hk : kindB c t false = true) (h1 : 256 ≤ n) (h2 : n < 65536) : Calls Tryd.prog 18 #[.agg #[.int .i64 c, .int .i64 t, .bool false, .int .i64 n]] w (PutP c t false n w) := by
  obtain ⟨hcc, ht0, ht1⟩ := kindB_cases hk
  obtain ⟨f, g, hf, hf2, hg, hhb, hg2, -, -⟩ := hb_first hk
  have kk : Kp (fun _ => False) w (w.alloc (.cells #[.int .i64 c, .int .i64 t, .bool false, .int .i64 n] 24)) := (Kp.refl _ _).alloc _
  have hpt : pt c t false n = (UInt8.ofNat f :: [130, UInt8.ofNat (n / 256), UInt8.ofNat n], 0) := by
    rw [pt, if_pos hk, if_neg (by omega), hhb, Int.toNat_natCast, lenB]
    simp only [if_neg (show ¬ n < 128 by omega), if_neg (show ¬ n < 256 by omega), if_pos h2, beB, List.nil_append, List.cons_append]
    rfl
  have hP : ∀ A cp w', BR w' (w.heap.size ≤ ·) (.slice A 4 cp) (UInt8.ofNat f :: [130, UInt8.ofNat (n / 256), UInt8.ofNat n]) → Kp (fun _ => False) w w' → PutP c t false n w (.returned (.tuple #[.slice A 4 cp, .int .i64 0])) w' := by
    intro A cp w' q1 q2
    rw [PutP, hpt]
    exact ⟨A, cp, rfl, q1, q2⟩
  have HP := Lib.hid hP
  have HK := Lib.hid hk
  clear hP hk hpt hhb
  have hF : (UInt8.ofNat f).toNat = f := by rw [UInt8.toNat_ofNat']; omega
  obtain ⟨L, hL, hL8⟩ := len_bytes n (by omega) (by omega)
  rw [if_neg (by omega), if_pos h2] at hL8
  have d1 : ((L : Int) + 7).tdiv 8 = 2 := by rw [Int.tdiv_eq_ediv_of_nonneg (by omega)]; omega
  have d2 : ((L : Int) + 7) / 8 = 2 := by omega
  have hL64 : L ≤ 64 := by omega
  have o1 : bits .or .i64 128 2 = 130 := by decide
  have hlit : #[Value.int .u8 (f : Int), .int .u8 130] = (bc [UInt8.ofNat f, 130]).toArray := by
    simp only [bc, List.map_cons, List.map_nil, hF]
    rfl
  have HO := Lib.hid (fun (W : World) (B : Nat) (hB : B ≤ W.heap.size) => Own.lit W [UInt8.ofNat f, 130] _ 2 B rfl hlit hB (by decide))
  have hl0 : #[Value.int .u8 ((n : Int) / 256)] = (bc [UInt8.ofNat (n / 256)]).toArray := by
    simp only [bc, List.map_cons, List.map_nil, UInt8.toNat_ofNat']
    congr 3
    try omega
  have HL0 := Lib.hid (fun W : World => BR.lit W 5 [UInt8.ofNat (n / 256)] _ 1 rfl hl0)
  have hl1 : #[Value.int .u8 ((n : Int) % 256)] = (bc [UInt8.ofNat (n)]).toArray := by
    simp only [bc, List.map_cons, List.map_nil, UInt8.toNat_ofNat']
    congr 3
    try omega
  have HL1 := Lib.hid (fun W : World => BR.lit W 5 [UInt8.ofNat (n)] _ 1 rfl hl1)
  clear hlit hF hL8 hl0 hl1
  have HLen := Lib.hid hL
  clear hL
  go_enter Tryd.func18, Tryd.ntmps18
  go_wp2_with fail
  refine (kind_any _ _ _ _ (ht.kp kk)).mono ?_
  rintro e w2 ⟨rfl, rfl⟩
  rw [if_pos HK.out]
  go_wp2_with fail
  refine (len_any _ _ (by omega) (by omega)).mono ?_
  rw [Int.toNat_natCast, HLen.out]
  rintro e w2 ⟨rfl, rfl⟩
  go_wp2_with fail
  refine wp_loop_rounds 3 ?_
  have o0 := HO.out (w.alloc (.cells #[.int .i64 c, .int .i64 t, .bool false, .int .i64 n] 24)) (w.heap.size + 1) (by simp)
  simp only [World.size_alloc] at o0
  have b0 := (Blk.new w 24 #[.int .i64 c, .int .i64 t, .bool false, .int .i64 n]).alloc (.cells #[.int .u8 (f : Int), .int .u8 130] 5)
  have k0 := kk.alloc (.cells #[.int .u8 (f : Int), .int .u8 130] 5)
  have z0 : w.heap.size + 1 ≤ ((w.alloc (.cells #[.int .i64 c, .int .i64 t, .bool false, .int .i64 n] 24)).alloc (.cells #[.int .u8 (f : Int), .int .u8 130] 5)).heap.size := by simp
  generalize (w.alloc (.cells #[.int .i64 c, .int .i64 t, .bool false, .int .i64 n] 24)).alloc (.cells #[.int .u8 (f : Int), .int .u8 130] 5) = W0 at o0 b0 k0 z0 ⊢
  have c0 := b0.cell 3
  have O0 := Lib.hid (o0.kp ((Kp.refl (fun _ => False) W0).alloc (.cells #[.int .u8 ((n : Int) / 256)] 5)) (fun _ _ h => h))
  rw [rounds_succ]
  go_wp2_with (at_builtin; refine app_bytes rfl (.tmp 63) (.tmp 70) rfl (w.heap.size + 1) _ 2 _ [UInt8.ofNat f, 130] rfl rfl O0.out (· = W0.heap.size) _ 1 1 [UInt8.ofNat (n / 256)] rfl rfl (HL0.out W0) 3 rfl (by omega) (by simp; omega) ?_; intro A1 c1' W1 o1 q1)
  have k1 := k0.then_ (((Kp.refl _ _).alloc (.cells #[.int .u8 ((n : Int) / 256)] 5)).then_ (S := (w.heap.size + 1 ≤ ·)) q1 (fun _ h => .inl h)) (fun i hi => .inr (by omega))
  have b1 := (b0.alloc (.cells #[.int .u8 ((n : Int) / 256)] 5)).kp q1 (by omega)
  have z1 : w.heap.size + 1 ≤ W1.heap.size := by have := q1.size; simp at this; omega
  have c1 := b1.cell 3
  have O1 := Lib.hid (o1.kp ((Kp.refl (fun _ => False) W1).alloc (.cells #[.int .u8 ((n : Int) % 256)] 5)) (fun _ _ h => h))
  rw [rounds_succ]
  go_wp2_with (at_builtin; refine app_bytes rfl (.tmp 63) (.tmp 70) rfl (w.heap.size + 1) _ 3 _ ([UInt8.ofNat f, 130] ++ [UInt8.ofNat (n / 256)]) rfl rfl O1.out (· = W1.heap.size) _ 1 1 [UInt8.ofNat (n)] rfl rfl (HL1.out W1) 4 rfl (by omega) (by simp; omega) ?_; intro A2 c2' W2 o2 q2)
  have k2 := k1.then_ (((Kp.refl _ _).alloc (.cells #[.int .u8 ((n : Int) % 256)] 5)).then_ (S := (w.heap.size + 1 ≤ ·)) q2 (fun _ h => .inl h)) (fun i hi => .inr (by omega))
  have b2 := (b1.alloc (.cells #[.int .u8 ((n : Int) % 256)] 5)).kp q2 (by omega)
  have z2 : w.heap.size + 1 ≤ W2.heap.size := by have := q2.size; simp at this; omega
  rw [rounds_succ]
  go_wp2_with fail
  go_ret2
  exact HP.out _ _ _ ((o2.br rfl).mono (fun i hi => by omega)) k2

set_option maxRecDepth 100000 in
set_option maxHeartbeats 1600000 in
theorem put_ok_f3 (w : World) (ht : Tab w) (c t : Int) (n : Nat) (hk : kindB c t false = true) (h1 : 65536 ≤ n) (h2 : n < 16777216) : Calls Tryd.prog 18 #[.agg #[.int .i64 c, .int .i64 t, .bool false, .int .i64 n]] w (PutP c t false n w) := by
  obtain ⟨hcc, ht0, ht1⟩ := kindB_cases hk
  obtain ⟨f, g, hf, hf2, hg, hhb, hg2, -, -⟩ := hb_first hk
  have kk : Kp (fun _ => False) w (w.alloc (.cells #[.int .i64 c, .int .i64 t, .bool false, .int .i64 n] 24)) := (Kp.refl _ _).alloc _
  have hpt : pt c t false n = (UInt8.ofNat f :: [131, UInt8.ofNat (n / 65536), UInt8.ofNat (n / 256), UInt8.ofNat n], 0) := by
    rw [pt, if_pos hk, if_neg (by omega), hhb, Int.toNat_natCast, lenB]
    simp only [if_neg (show ¬ n < 128 by omega), if_neg (show ¬ n < 256 by omega), if_neg (show ¬ n < 65536 by omega), beB, List.nil_append, List.cons_append, Nat.div_div_eq_div_mul]
    rfl
  have hP : ∀ A cp w', BR w' (w.heap.size ≤ ·) (.slice A 5 cp) (UInt8.ofNat f :: [131, UInt8.ofNat (n / 65536), UInt8.ofNat (n / 256), UInt8.ofNat n]) → Kp (fun _ => False) w w' → PutP c t false n w (.returned (.tuple #[.slice A 5 cp, .int .i64 0])) w' := by
    intro A cp w' q1 q2
    rw [PutP, hpt]
    exact ⟨A, cp, rfl, q1, q2⟩
  have HP := Lib.hid hP
  have HK := Lib.hid hk
  clear hP hk hpt hhb
  have hF : (UInt8.ofNat f).toNat = f := by rw [UInt8.toNat_ofNat']; omega
  obtain ⟨L, hL, hL8⟩ := len_bytes n (by omega) (by omega)
  rw [if_neg (by omega), if_neg (by omega)] at hL8
  have d1 : ((L : Int) + 7).tdiv 8 = 3 := by rw [Int.tdiv_eq_ediv_of_nonneg (by omega)]; omega
  have d2 : ((L : Int) + 7) / 8 = 3 := by omega
  have hL64 : L ≤ 64 := by omega
  have o1 : bits .or .i64 128 3 = 131 := by decide
  have hlit : #[Value.int .u8 (f : Int), .int .u8 131] = (bc [UInt8.ofNat f, 131]).toArray := by
    simp only [bc, List.map_cons, List.map_nil, hF]
    rfl
  have HO := Lib.hid (fun (W : World) (B : Nat) (hB : B ≤ W.heap.size) => Own.lit W [UInt8.ofNat f, 131] _ 2 B rfl hlit hB (by decide))
  have hl0 : #[Value.int .u8 ((n : Int) / 65536)] = (bc [UInt8.ofNat (n / 65536)]).toArray := by
    simp only [bc, List.map_cons, List.map_nil, UInt8.toNat_ofNat']
    congr 3
    try omega
  have HL0 := Lib.hid (fun W : World => BR.lit W 5 [UInt8.ofNat (n / 65536)] _ 1 rfl hl0)
  have hl1 : #[Value.int .u8 ((n : Int) / 256 % 256)] = (bc [UInt8.ofNat (n / 256)]).toArray := by
    simp only [bc, List.map_cons, List.map_nil, UInt8.toNat_ofNat']
    congr 3
    try omega
  have HL1 := Lib.hid (fun W : World => BR.lit W 5 [UInt8.ofNat (n / 256)] _ 1 rfl hl1)
  have hl2 : #[Value.int .u8 ((n : Int) % 256)] = (bc [UInt8.ofNat (n)]).toArray := by
    simp only [bc, List.map_cons, List.map_nil, UInt8.toNat_ofNat']
    congr 3
    try omega
  have HL2 := Lib.hid (fun W : World => BR.lit W 5 [UInt8.ofNat (n)] _ 1 rfl hl2)
  clear hlit hF hL8 hl0 hl1 hl2
  have HLen := Lib.hid hL
  clear hL
  go_enter Tryd.func18, Tryd.ntmps18
  go_wp2_with fail
  refine (kind_any _ _ _ _ (ht.kp kk)).mono ?_
  rintro e w2 ⟨rfl, rfl⟩
  rw [if_pos HK.out]
  go_wp2_with fail
  refine (len_any _ _ (by omega) (by omega)).mono ?_
  rw [Int.toNat_natCast, HLen.out]
  rintro e w2 ⟨rfl, rfl⟩
  go_wp2_with fail
  refine wp_loop_rounds 4 ?_
  have o0 := HO.out (w.alloc (.cells #[.int .i64 c, .int .i64 t, .bool false, .int .i64 n] 24)) (w.heap.size + 1) (by simp)
  simp only [World.size_alloc] at o0
  have b0 := (Blk.new w 24 #[.int .i64 c, .int .i64 t, .bool false, .int .i64 n]).alloc (.cells #[.int .u8 (f : Int), .int .u8 131] 5)
  have k0 := kk.alloc (.cells #[.int .u8 (f : Int), .int .u8 131] 5)
  have z0 : w.heap.size + 1 ≤ ((w.alloc (.cells #[.int .i64 c, .int .i64 t, .bool false, .int .i64 n] 24)).alloc (.cells #[.int .u8 (f : Int), .int .u8 131] 5)).heap.size := by simp
  generalize (w.alloc (.cells #[.int .i64 c, .int .i64 t, .bool false, .int .i64 n] 24)).alloc (.cells #[.int .u8 (f : Int), .int .u8 131] 5) = W0 at o0 b0 k0 z0 ⊢
  have c0 := b0.cell 3
  have O0 := Lib.hid (o0.kp ((Kp.refl (fun _ => False) W0).alloc (.cells #[.int .u8 ((n : Int) / 65536)] 5)) (fun _ _ h => h))
  rw [rounds_succ]
  go_wp2_with (at_builtin; refine app_bytes rfl (.tmp 63) (.tmp 70) rfl (w.heap.size + 1) _ 2 _ [UInt8.ofNat f, 131] rfl rfl O0.out (· = W0.heap.size) _ 1 1 [UInt8.ofNat (n / 65536)] rfl rfl (HL0.out W0) 3 rfl (by omega) (by simp; omega) ?_; intro A1 c1' W1 o1 q1)
  have k1 := k0.then_ (((Kp.refl _ _).alloc (.cells #[.int .u8 ((n : Int) / 65536)] 5)).then_ (S := (w.heap.size + 1 ≤ ·)) q1 (fun _ h => .inl h)) (fun i hi => .inr (by omega))
  have b1 := (b0.alloc (.cells #[.int .u8 ((n : Int) / 65536)] 5)).kp q1 (by omega)
  have z1 : w.heap.size + 1 ≤ W1.heap.size := by have := q1.size; simp at this; omega
  have c1 := b1.cell 3
  have O1 := Lib.hid (o1.kp ((Kp.refl (fun _ => False) W1).alloc (.cells #[.int .u8 ((n : Int) / 256 % 256)] 5)) (fun _ _ h => h))
  rw [rounds_succ]
  go_wp2_with (at_builtin; refine app_bytes rfl (.tmp 63) (.tmp 70) rfl (w.heap.size + 1) _ 3 _ ([UInt8.ofNat f, 131] ++ [UInt8.ofNat (n / 65536)]) rfl rfl O1.out (· = W1.heap.size) _ 1 1 [UInt8.ofNat (n / 256)] rfl rfl (HL1.out W1) 4 rfl (by omega) (by simp; omega) ?_; intro A2 c2' W2 o2 q2)
  have k2 := k1.then_ (((Kp.refl _ _).alloc (.cells #[.int .u8 ((n : Int) / 256 % 256)] 5)).then_ (S := (w.heap.size + 1 ≤ ·)) q2 (fun _ h => .inl h)) (fun i hi => .inr (by omega))
  have b2 := (b1.alloc (.cells #[.int .u8 ((n : Int) / 256 % 256)] 5)).kp q2 (by omega)
  have z2 : w.heap.size + 1 ≤ W2.heap.size := by have := q2.size; simp at this; omega
  have c2 := b2.cell 3
  have O2 := Lib.hid (o2.kp ((Kp.refl (fun _ => False) W2).alloc (.cells #[.int .u8 ((n : Int) % 256)] 5)) (fun _ _ h => h))
  rw [rounds_succ]
  go_wp2_with (at_builtin; refine app_bytes rfl (.tmp 63) (.tmp 70) rfl (w.heap.size + 1) _ 4 _ (([UInt8.ofNat f, 131] ++ [UInt8.ofNat (n / 65536)]) ++ [UInt8.ofNat (n / 256)]) rfl rfl O2.out (· = W2.heap.size) _ 1 1 [UInt8.ofNat (n)] rfl rfl (HL2.out W2) 5 rfl (by omega) (by simp; omega) ?_; intro A3 c3' W3 o3 q3)
  have k3 := k2.then_ (((Kp.refl _ _).alloc (.cells #[.int .u8 ((n : Int) % 256)] 5)).then_ (S := (w.heap.size + 1 ≤ ·)) q3 (fun _ h => .inl h)) (fun i hi => .inr (by omega))
  have b3 := (b2.alloc (.cells #[.int .u8 ((n : Int) % 256)] 5)).kp q3 (by omega)
  have z3 : w.heap.size + 1 ≤ W3.heap.size := by have := q3.size; simp at this; omega
  rw [rounds_succ]
  go_wp2_with fail
  go_ret2
  exact HP.out _ _ _ ((o3.br rfl).mono (fun i hi => by omega)) k3

set_option maxRecDepth 100000 in
set_option maxHeartbeats 1600000 in
theorem put_ok_t0 (w : World) (ht : Tab w) (c t : Int) (n : Nat) (hk : kindB c t true = true) (h1 : 0 ≤ n) (h2 : n < 128) : Calls Tryd.prog 18 #[.agg #[.int .i64 c, .int .i64 t, .bool true, .int .i64 n]] w (PutP c t true n w) := by
  obtain ⟨hcc, ht0, ht1⟩ := kindB_cases hk
  obtain ⟨f, g, hf, hf2, hg, hhb, hg2, -, -⟩ := hb_first hk
  have kk : Kp (fun _ => False) w (w.alloc (.cells #[.int .i64 c, .int .i64 t, .bool true, .int .i64 n] 24)) := (Kp.refl _ _).alloc _
  have hpt : pt c t true n = (UInt8.ofNat g :: [UInt8.ofNat n], 0) := by
    rw [pt, if_pos hk, if_neg (by omega), hhb, Int.toNat_natCast, lenB]
    simp only [if_pos h2]
    rfl
  have hP : ∀ A cp w', BR w' (w.heap.size ≤ ·) (.slice A 2 cp) (UInt8.ofNat g :: [UInt8.ofNat n]) → Kp (fun _ => False) w w' → PutP c t true n w (.returned (.tuple #[.slice A 2 cp, .int .i64 0])) w' := by
    intro A cp w' q1 q2
    rw [PutP, hpt]
    exact ⟨A, cp, rfl, q1, q2⟩
  have HP := Lib.hid hP
  have HK := Lib.hid hk
  clear hP hk hpt hhb
  have hF : (UInt8.ofNat g).toNat = g := by rw [UInt8.toNat_ofNat']; omega
  have hlit : #[Value.int .u8 (g : Int), .int .u8 (n : Int)] = (bc [UInt8.ofNat g, UInt8.ofNat n]).toArray := by
    simp only [bc, List.map_cons, List.map_nil, hF, UInt8.toNat_ofNat', show n % 2 ^ 8 = n from by omega]
  have HB := Lib.hid (fun W : World => BR.lit W 5 [UInt8.ofNat g, UInt8.ofNat n] _ 2 rfl hlit)
  clear hlit hF
  go_enter Tryd.func18, Tryd.ntmps18
  go_wp2_with fail
  refine (kind_any _ _ _ _ (ht.kp kk)).mono ?_
  rintro e w2 ⟨rfl, rfl⟩
  rw [if_pos HK.out]
  go_wp2_with fail
  go_ret2
  refine HP.out _ _ _ ?_ (kk.alloc _)
  have := HB.out (w.alloc (.cells #[.int .i64 c, .int .i64 t, .bool true, .int .i64 n] 24))
  simp only [World.size_alloc] at this
  exact this.mono (fun i hi => by subst hi; (try simp); (try omega))

set_option maxRecDepth 100000 in
set_option maxHeartbeats 1600000 in
theorem put_ok_t1 (w : World) (ht : Tab w) (c t : Int) (n : Nat) (hk : kindB c t true = true) (h1 : 128 ≤ n) (h2 : n < 256) : Calls Tryd.prog 18 #[.agg #[.int .i64 c, .int .i64 t, .bool true, .int .i64 n]] w (PutP c t true n w) := by
  obtain ⟨hcc, ht0, ht1⟩ := kindB_cases hk
  obtain ⟨f, g, hf, hf2, hg, hhb, hg2, -, -⟩ := hb_first hk
  have kk : Kp (fun _ => False) w (w.alloc (.cells #[.int .i64 c, .int .i64 t, .bool true, .int .i64 n] 24)) := (Kp.refl _ _).alloc _
  have hpt : pt c t true n = (UInt8.ofNat g :: [129, UInt8.ofNat n], 0) := by
    rw [pt, if_pos hk, if_neg (by omega), hhb, Int.toNat_natCast, lenB]
    simp only [if_neg (show ¬ n < 128 by omega), if_pos h2]
    rfl
  have hP : ∀ A cp w', BR w' (w.heap.size ≤ ·) (.slice A 3 cp) (UInt8.ofNat g :: [129, UInt8.ofNat n]) → Kp (fun _ => False) w w' → PutP c t true n w (.returned (.tuple #[.slice A 3 cp, .int .i64 0])) w' := by
    intro A cp w' q1 q2
    rw [PutP, hpt]
    exact ⟨A, cp, rfl, q1, q2⟩
  have HP := Lib.hid hP
  have HK := Lib.hid hk
  clear hP hk hpt hhb
  have hF : (UInt8.ofNat g).toNat = g := by rw [UInt8.toNat_ofNat']; omega
  obtain ⟨L, hL, hL8⟩ := len_bytes n (by omega) (by omega)
  rw [if_pos h2] at hL8
  have d1 : ((L : Int) + 7).tdiv 8 = 1 := by rw [Int.tdiv_eq_ediv_of_nonneg (by omega)]; omega
  have d2 : ((L : Int) + 7) / 8 = 1 := by omega
  have hL64 : L ≤ 64 := by omega
  have o1 : bits .or .i64 128 1 = 129 := by decide
  have hlit : #[Value.int .u8 (g : Int), .int .u8 129] = (bc [UInt8.ofNat g, 129]).toArray := by
    simp only [bc, List.map_cons, List.map_nil, hF]
    rfl
  have HO := Lib.hid (fun (W : World) (B : Nat) (hB : B ≤ W.heap.size) => Own.lit W [UInt8.ofNat g, 129] _ 2 B rfl hlit hB (by decide))
  have hl0 : #[Value.int .u8 ((n : Int))] = (bc [UInt8.ofNat (n)]).toArray := by
    simp only [bc, List.map_cons, List.map_nil, UInt8.toNat_ofNat']
    congr 3
    try omega
  have HL0 := Lib.hid (fun W : World => BR.lit W 5 [UInt8.ofNat (n)] _ 1 rfl hl0)
  clear hlit hF hL8 hl0
  have HLen := Lib.hid hL
  clear hL
  go_enter Tryd.func18, Tryd.ntmps18
  go_wp2_with fail
  refine (kind_any _ _ _ _ (ht.kp kk)).mono ?_
  rintro e w2 ⟨rfl, rfl⟩
  rw [if_pos HK.out]
  go_wp2_with fail
  refine (len_any _ _ (by omega) (by omega)).mono ?_
  rw [Int.toNat_natCast, HLen.out]
  rintro e w2 ⟨rfl, rfl⟩
  go_wp2_with fail
  refine wp_loop_rounds 2 ?_
  have o0 := HO.out (w.alloc (.cells #[.int .i64 c, .int .i64 t, .bool true, .int .i64 n] 24)) (w.heap.size + 1) (by simp)
  simp only [World.size_alloc] at o0
  have b0 := (Blk.new w 24 #[.int .i64 c, .int .i64 t, .bool true, .int .i64 n]).alloc (.cells #[.int .u8 (g : Int), .int .u8 129] 5)
  have k0 := kk.alloc (.cells #[.int .u8 (g : Int), .int .u8 129] 5)
  have z0 : w.heap.size + 1 ≤ ((w.alloc (.cells #[.int .i64 c, .int .i64 t, .bool true, .int .i64 n] 24)).alloc (.cells #[.int .u8 (g : Int), .int .u8 129] 5)).heap.size := by simp
  generalize (w.alloc (.cells #[.int .i64 c, .int .i64 t, .bool true, .int .i64 n] 24)).alloc (.cells #[.int .u8 (g : Int), .int .u8 129] 5) = W0 at o0 b0 k0 z0 ⊢
  have c0 := b0.cell 3
  have O0 := Lib.hid (o0.kp ((Kp.refl (fun _ => False) W0).alloc (.cells #[.int .u8 ((n : Int))] 5)) (fun _ _ h => h))
  rw [rounds_succ]
  go_wp2_with (at_builtin; refine app_bytes rfl (.tmp 63) (.tmp 70) rfl (w.heap.size + 1) _ 2 _ [UInt8.ofNat g, 129] rfl rfl O0.out (· = W0.heap.size) _ 1 1 [UInt8.ofNat (n)] rfl rfl (HL0.out W0) 3 rfl (by omega) (by simp; omega) ?_; intro A1 c1' W1 o1 q1)
  have k1 := k0.then_ (((Kp.refl _ _).alloc (.cells #[.int .u8 ((n : Int))] 5)).then_ (S := (w.heap.size + 1 ≤ ·)) q1 (fun _ h => .inl h)) (fun i hi => .inr (by omega))
  have b1 := (b0.alloc (.cells #[.int .u8 ((n : Int))] 5)).kp q1 (by omega)
  have z1 : w.heap.size + 1 ≤ W1.heap.size := by have := q1.size; simp at this; omega
  rw [rounds_succ]
  go_wp2_with fail
  go_ret2
  exact HP.out _ _ _ ((o1.br rfl).mono (fun i hi => by omega)) k1

set_option maxRecDepth 100000 in
set_option maxHeartbeats 1600000 in
theorem put_ok_t2 (w : World) (ht : Tab w) (c t : Int) (n : Nat) (hk : kindB c t true = true) (h1 : 256 ≤ n) (h2 : n < 65536) : Calls Tryd.prog 18 #[.agg #[.int .i64 c, .int .i64 t, .bool true, .int .i64 n]] w (PutP c t true n w) := by
  obtain ⟨hcc, ht0, ht1⟩ := kindB_cases hk
  obtain ⟨f, g, hf, hf2, hg, hhb, hg2, -, -⟩ := hb_first hk
  have kk : Kp (fun _ => False) w (w.alloc (.cells #[.int .i64 c, .int .i64 t, .bool true, .int .i64 n] 24)) := (Kp.refl _ _).alloc _
  have hpt : pt c t true n = (UInt8.ofNat g :: [130, UInt8.ofNat (n / 256), UInt8.ofNat n], 0) := by
    rw [pt, if_pos hk, if_neg (by omega), hhb, Int.toNat_natCast, lenB]
    simp only [if_neg (show ¬ n < 128 by omega), if_neg (show ¬ n < 256 by omega), if_pos h2, beB, List.nil_append, List.cons_append]
    rfl
  have hP : ∀ A cp w', BR w' (w.heap.size ≤ ·) (.slice A 4 cp) (UInt8.ofNat g :: [130, UInt8.ofNat (n / 256), UInt8.ofNat n]) → Kp (fun _ => False) w w' → PutP c t true n w (.returned (.tuple #[.slice A 4 cp, .int .i64 0])) w' := by
    intro A cp w' q1 q2
    rw [PutP, hpt]
    exact ⟨A, cp, rfl, q1, q2⟩
  have HP := Lib.hid hP
  have HK := Lib.hid hk
  clear hP hk hpt hhb
  have hF : (UInt8.ofNat g).toNat = g := by rw [UInt8.toNat_ofNat']; omega
  obtain ⟨L, hL, hL8⟩ := len_bytes n (by omega) (by omega)
  rw [if_neg (by omega), if_pos h2] at hL8
  have d1 : ((L : Int) + 7).tdiv 8 = 2 := by rw [Int.tdiv_eq_ediv_of_nonneg (by omega)]; omega
  have d2 : ((L : Int) + 7) / 8 = 2 := by omega
  have hL64 : L ≤ 64 := by omega
  have o1 : bits .or .i64 128 2 = 130 := by decide
  have hlit : #[Value.int .u8 (g : Int), .int .u8 130] = (bc [UInt8.ofNat g, 130]).toArray := by
    simp only [bc, List.map_cons, List.map_nil, hF]
    rfl
  have HO := Lib.hid (fun (W : World) (B : Nat) (hB : B ≤ W.heap.size) => Own.lit W [UInt8.ofNat g, 130] _ 2 B rfl hlit hB (by decide))
  have hl0 : #[Value.int .u8 ((n : Int) / 256)] = (bc [UInt8.ofNat (n / 256)]).toArray := by
    simp only [bc, List.map_cons, List.map_nil, UInt8.toNat_ofNat']
    congr 3
    try omega
  have HL0 := Lib.hid (fun W : World => BR.lit W 5 [UInt8.ofNat (n / 256)] _ 1 rfl hl0)
  have hl1 : #[Value.int .u8 ((n : Int) % 256)] = (bc [UInt8.ofNat (n)]).toArray := by
    simp only [bc, List.map_cons, List.map_nil, UInt8.toNat_ofNat']
    congr 3
    try omega
  have HL1 := Lib.hid (fun W : World => BR.lit W 5 [UInt8.ofNat (n)] _ 1 rfl hl1)
  clear hlit hF hL8 hl0 hl1
  have HLen := Lib.hid hL
  clear hL
  go_enter Tryd.func18, Tryd.ntmps18
  go_wp2_with fail
  refine (kind_any _ _ _ _ (ht.kp kk)).mono ?_
  rintro e w2 ⟨rfl, rfl⟩
  rw [if_pos HK.out]
  go_wp2_with fail
  refine (len_any _ _ (by omega) (by omega)).mono ?_
  rw [Int.toNat_natCast, HLen.out]
  rintro e w2 ⟨rfl, rfl⟩
  go_wp2_with fail
  refine wp_loop_rounds 3 ?_
  have o0 := HO.out (w.alloc (.cells #[.int .i64 c, .int .i64 t, .bool true, .int .i64 n] 24)) (w.heap.size + 1) (by simp)
  simp only [World.size_alloc] at o0
  have b0 := (Blk.new w 24 #[.int .i64 c, .int .i64 t, .bool true, .int .i64 n]).alloc (.cells #[.int .u8 (g : Int), .int .u8 130] 5)
  have k0 := kk.alloc (.cells #[.int .u8 (g : Int), .int .u8 130] 5)
  have z0 : w.heap.size + 1 ≤ ((w.alloc (.cells #[.int .i64 c, .int .i64 t, .bool true, .int .i64 n] 24)).alloc (.cells #[.int .u8 (g : Int), .int .u8 130] 5)).heap.size := by simp
  generalize (w.alloc (.cells #[.int .i64 c, .int .i64 t, .bool true, .int .i64 n] 24)).alloc (.cells #[.int .u8 (g : Int), .int .u8 130] 5) = W0 at o0 b0 k0 z0 ⊢
  have c0 := b0.cell 3
  have O0 := Lib.hid (o0.kp ((Kp.refl (fun _ => False) W0).alloc (.cells #[.int .u8 ((n : Int) / 256)] 5)) (fun _ _ h => h))
  rw [rounds_succ]
  go_wp2_with (at_builtin; refine app_bytes rfl (.tmp 63) (.tmp 70) rfl (w.heap.size + 1) _ 2 _ [UInt8.ofNat g, 130] rfl rfl O0.out (· = W0.heap.size) _ 1 1 [UInt8.ofNat (n / 256)] rfl rfl (HL0.out W0) 3 rfl (by omega) (by simp; omega) ?_; intro A1 c1' W1 o1 q1)
  have k1 := k0.then_ (((Kp.refl _ _).alloc (.cells #[.int .u8 ((n : Int) / 256)] 5)).then_ (S := (w.heap.size + 1 ≤ ·)) q1 (fun _ h => .inl h)) (fun i hi => .inr (by omega))
  have b1 := (b0.alloc (.cells #[.int .u8 ((n : Int) / 256)] 5)).kp q1 (by omega)
  have z1 : w.heap.size + 1 ≤ W1.heap.size := by have := q1.size; simp at this; omega
  have c1 := b1.cell 3
  have O1 := Lib.hid (o1.kp ((Kp.refl (fun _ => False) W1).alloc (.cells #[.int .u8 ((n : Int) % 256)] 5)) (fun _ _ h => h))
  rw [rounds_succ]
  go_wp2_with (at_builtin; refine app_bytes rfl (.tmp 63) (.tmp 70) rfl (w.heap.size + 1) _ 3 _ ([UInt8.ofNat g, 130] ++ [UInt8.ofNat (n / 256)]) rfl rfl O1.out (· = W1.heap.size) _ 1 1 [UInt8.ofNat (n)] rfl rfl (HL1.out W1) 4 rfl (by omega) (by simp; omega) ?_; intro A2 c2' W2 o2 q2)
  have k2 := k1.then_ (((Kp.refl _ _).alloc (.cells #[.int .u8 ((n : Int) % 256)] 5)).then_ (S := (w.heap.size + 1 ≤ ·)) q2 (fun _ h => .inl h)) (fun i hi => .inr (by omega))
  have b2 := (b1.alloc (.cells #[.int .u8 ((n : Int) % 256)] 5)).kp q2 (by omega)
  have z2 : w.heap.size + 1 ≤ W2.heap.size := by have := q2.size; simp at this; omega
  rw [rounds_succ]
  go_wp2_with fail
  go_ret2
  exact HP.out _ _ _ ((o2.br rfl).mono (fun i hi => by omega)) k2

set_option maxRecDepth 100000 in
set_option maxHeartbeats 1600000 in
theorem put_ok_t3 (w : World) (ht : Tab w) (c t : Int) (n : Nat) (hk : kindB c t true = true) (h1 : 65536 ≤ n) (h2 : n < 16777216) : Calls Tryd.prog 18 #[.agg #[.int .i64 c, .int .i64 t, .bool true, .int .i64 n]] w (PutP c t true n w) := by
  obtain ⟨hcc, ht0, ht1⟩ := kindB_cases hk
  obtain ⟨f, g, hf, hf2, hg, hhb, hg2, -, -⟩ := hb_first hk
  have kk : Kp (fun _ => False) w (w.alloc (.cells #[.int .i64 c, .int .i64 t, .bool true, .int .i64 n] 24)) := (Kp.refl _ _).alloc _
  have hpt : pt c t true n = (UInt8.ofNat g :: [131, UInt8.ofNat (n / 65536), UInt8.ofNat (n / 256), UInt8.ofNat n], 0) := by
    rw [pt, if_pos hk, if_neg (by omega), hhb, Int.toNat_natCast, lenB]
    simp only [if_neg (show ¬ n < 128 by omega), if_neg (show ¬ n < 256 by omega), if_neg (show ¬ n < 65536 by omega), beB, List.nil_append, List.cons_append, Nat.div_div_eq_div_mul]
    rfl
  have hP : ∀ A cp w', BR w' (w.heap.size ≤ ·) (.slice A 5 cp) (UInt8.ofNat g :: [131, UInt8.ofNat (n / 65536), UInt8.ofNat (n / 256), UInt8.ofNat n]) → Kp (fun _ => False) w w' → PutP c t true n w (.returned (.tuple #[.slice A 5 cp, .int .i64 0])) w' := by
    intro A cp w' q1 q2
    rw [PutP, hpt]
    exact ⟨A, cp, rfl, q1, q2⟩
  have HP := Lib.hid hP
  have HK := Lib.hid hk
  clear hP hk hpt hhb
  have hF : (UInt8.ofNat g).toNat = g := by rw [UInt8.toNat_ofNat']; omega
  obtain ⟨L, hL, hL8⟩ := len_bytes n (by omega) (by omega)
  rw [if_neg (by omega), if_neg (by omega)] at hL8
  have d1 : ((L : Int) + 7).tdiv 8 = 3 := by rw [Int.tdiv_eq_ediv_of_nonneg (by omega)]; omega
  have d2 : ((L : Int) + 7) / 8 = 3 := by omega
  have hL64 : L ≤ 64 := by omega
  have o1 : bits .or .i64 128 3 = 131 := by decide
  have hlit : #[Value.int .u8 (g : Int), .int .u8 131] = (bc [UInt8.ofNat g, 131]).toArray := by
    simp only [bc, List.map_cons, List.map_nil, hF]
    rfl
  have HO := Lib.hid (fun (W : World) (B : Nat) (hB : B ≤ W.heap.size) => Own.lit W [UInt8.ofNat g, 131] _ 2 B rfl hlit hB (by decide))
  have hl0 : #[Value.int .u8 ((n : Int) / 65536)] = (bc [UInt8.ofNat (n / 65536)]).toArray := by
    simp only [bc, List.map_cons, List.map_nil, UInt8.toNat_ofNat']
    congr 3
    try omega
  have HL0 := Lib.hid (fun W : World => BR.lit W 5 [UInt8.ofNat (n / 65536)] _ 1 rfl hl0)
  have hl1 : #[Value.int .u8 ((n : Int) / 256 % 256)] = (bc [UInt8.ofNat (n / 256)]).toArray := by
    simp only [bc, List.map_cons, List.map_nil, UInt8.toNat_ofNat']
    congr 3
    try omega
  have HL1 := Lib.hid (fun W : World => BR.lit W 5 [UInt8.ofNat (n / 256)] _ 1 rfl hl1)
  have hl2 : #[Value.int .u8 ((n : Int) % 256)] = (bc [UInt8.ofNat (n)]).toArray := by
    simp only [bc, List.map_cons, List.map_nil, UInt8.toNat_ofNat']
    congr 3
    try omega
  have HL2 := Lib.hid (fun W : World => BR.lit W 5 [UInt8.ofNat (n)] _ 1 rfl hl2)
  clear hlit hF hL8 hl0 hl1 hl2
  have HLen := Lib.hid hL
  clear hL
  go_enter Tryd.func18, Tryd.ntmps18
  go_wp2_with fail
  refine (kind_any _ _ _ _ (ht.kp kk)).mono ?_
  rintro e w2 ⟨rfl, rfl⟩
  rw [if_pos HK.out]
  go_wp2_with fail
  refine (len_any _ _ (by omega) (by omega)).mono ?_
  rw [Int.toNat_natCast, HLen.out]
  rintro e w2 ⟨rfl, rfl⟩
  go_wp2_with fail
  refine wp_loop_rounds 4 ?_
  have o0 := HO.out (w.alloc (.cells #[.int .i64 c, .int .i64 t, .bool true, .int .i64 n] 24)) (w.heap.size + 1) (by simp)
  simp only [World.size_alloc] at o0
  have b0 := (Blk.new w 24 #[.int .i64 c, .int .i64 t, .bool true, .int .i64 n]).alloc (.cells #[.int .u8 (g : Int), .int .u8 131] 5)
  have k0 := kk.alloc (.cells #[.int .u8 (g : Int), .int .u8 131] 5)
  have z0 : w.heap.size + 1 ≤ ((w.alloc (.cells #[.int .i64 c, .int .i64 t, .bool true, .int .i64 n] 24)).alloc (.cells #[.int .u8 (g : Int), .int .u8 131] 5)).heap.size := by simp
  generalize (w.alloc (.cells #[.int .i64 c, .int .i64 t, .bool true, .int .i64 n] 24)).alloc (.cells #[.int .u8 (g : Int), .int .u8 131] 5) = W0 at o0 b0 k0 z0 ⊢
  have c0 := b0.cell 3
  have O0 := Lib.hid (o0.kp ((Kp.refl (fun _ => False) W0).alloc (.cells #[.int .u8 ((n : Int) / 65536)] 5)) (fun _ _ h => h))
  rw [rounds_succ]
  go_wp2_with (at_builtin; refine app_bytes rfl (.tmp 63) (.tmp 70) rfl (w.heap.size + 1) _ 2 _ [UInt8.ofNat g, 131] rfl rfl O0.out (· = W0.heap.size) _ 1 1 [UInt8.ofNat (n / 65536)] rfl rfl (HL0.out W0) 3 rfl (by omega) (by simp; omega) ?_; intro A1 c1' W1 o1 q1)
  have k1 := k0.then_ (((Kp.refl _ _).alloc (.cells #[.int .u8 ((n : Int) / 65536)] 5)).then_ (S := (w.heap.size + 1 ≤ ·)) q1 (fun _ h => .inl h)) (fun i hi => .inr (by omega))
  have b1 := (b0.alloc (.cells #[.int .u8 ((n : Int) / 65536)] 5)).kp q1 (by omega)
  have z1 : w.heap.size + 1 ≤ W1.heap.size := by have := q1.size; simp at this; omega
  have c1 := b1.cell 3
  have O1 := Lib.hid (o1.kp ((Kp.refl (fun _ => False) W1).alloc (.cells #[.int .u8 ((n : Int) / 256 % 256)] 5)) (fun _ _ h => h))
  rw [rounds_succ]
  go_wp2_with (at_builtin; refine app_bytes rfl (.tmp 63) (.tmp 70) rfl (w.heap.size + 1) _ 3 _ ([UInt8.ofNat g, 131] ++ [UInt8.ofNat (n / 65536)]) rfl rfl O1.out (· = W1.heap.size) _ 1 1 [UInt8.ofNat (n / 256)] rfl rfl (HL1.out W1) 4 rfl (by omega) (by simp; omega) ?_; intro A2 c2' W2 o2 q2)
  have k2 := k1.then_ (((Kp.refl _ _).alloc (.cells #[.int .u8 ((n : Int) / 256 % 256)] 5)).then_ (S := (w.heap.size + 1 ≤ ·)) q2 (fun _ h => .inl h)) (fun i hi => .inr (by omega))
  have b2 := (b1.alloc (.cells #[.int .u8 ((n : Int) / 256 % 256)] 5)).kp q2 (by omega)
  have z2 : w.heap.size + 1 ≤ W2.heap.size := by have := q2.size; simp at this; omega
  have c2 := b2.cell 3
  have O2 := Lib.hid (o2.kp ((Kp.refl (fun _ => False) W2).alloc (.cells #[.int .u8 ((n : Int) % 256)] 5)) (fun _ _ h => h))
  rw [rounds_succ]
  go_wp2_with (at_builtin; refine app_bytes rfl (.tmp 63) (.tmp 70) rfl (w.heap.size + 1) _ 4 _ (([UInt8.ofNat g, 131] ++ [UInt8.ofNat (n / 65536)]) ++ [UInt8.ofNat (n / 256)]) rfl rfl O2.out (· = W2.heap.size) _ 1 1 [UInt8.ofNat (n)] rfl rfl (HL2.out W2) 5 rfl (by omega) (by simp; omega) ?_; intro A3 c3' W3 o3 q3)
  have k3 := k2.then_ (((Kp.refl _ _).alloc (.cells #[.int .u8 ((n : Int) % 256)] 5)).then_ (S := (w.heap.size + 1 ≤ ·)) q3 (fun _ h => .inl h)) (fun i hi => .inr (by omega))
  have b3 := (b2.alloc (.cells #[.int .u8 ((n : Int) % 256)] 5)).kp q3 (by omega)
  have z3 : w.heap.size + 1 ≤ W3.heap.size := by have := q3.size; simp at this; omega
  rw [rounds_succ]
  go_wp2_with fail
  go_ret2
  exact HP.out _ _ _ ((o3.br rfl).mono (fun i hi => by omega)) k3

theorem put_any (w : World) (ht : Tab w) (c t : Int) (m : Bool) (n : Int) : Calls Tryd.prog 18 #[.agg #[.int .i64 c, .int .i64 t, .bool m, .int .i64 n]] w (PutP c t m n w) := by
  cases hk : kindB c t m
  · exact put_bad w ht c t m n hk
  by_cases hn : n < 0 ∨ 16777215 < n
  · exact put_len w ht c t m n hk hn
  obtain ⟨N, rfl⟩ := Int.eq_ofNat_of_zero_le (show 0 ≤ n by omega)
  cases m
  · rcases Nat.lt_or_ge N 128 with h | h
    · exact put_ok_f0 w ht c t N hk (Nat.zero_le _) h
    rcases Nat.lt_or_ge N 256 with h' | h'
    · exact put_ok_f1 w ht c t N hk h h'
    rcases Nat.lt_or_ge N 65536 with h'' | h''
    · exact put_ok_f2 w ht c t N hk h' h''
    · exact put_ok_f3 w ht c t N hk h'' (by omega)
  · rcases Nat.lt_or_ge N 128 with h | h
    · exact put_ok_t0 w ht c t N hk (Nat.zero_le _) h
    rcases Nat.lt_or_ge N 256 with h' | h'
    · exact put_ok_t1 w ht c t N hk h h'
    rcases Nat.lt_or_ge N 65536 with h'' | h''
    · exact put_ok_t2 w ht c t N hk h' h''
    · exact put_ok_t3 w ht c t N hk h'' (by omega)

end Go.Proofs.YtjdfgjlbmbiihaaDoor
