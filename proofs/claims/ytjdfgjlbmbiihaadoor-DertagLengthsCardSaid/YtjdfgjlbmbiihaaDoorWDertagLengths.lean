/-
  DertagLengths: the walk.
-/
import Derived.Test.YtjdfgjlbmbiihaaDoorL09
import Derived.Test.YtjdfgjlbmbiihaaDoorDl2
namespace Go.Proofs.YtjdfgjlbmbiihaaDoor
open Go.RowKit

theorem mod24 (n : Int) : ∃ k : Nat, wrap64 ((IntKind.u64.wrap n).tmod 16777216) = (k : Int) ∧ k ≤ 16777215 := by
  rw [IntKind.wrap_u64]
  have h0 : 0 ≤ n % 18446744073709551616 := Int.emod_nonneg _ (by omega)
  rw [Int.tmod_eq_emod_of_nonneg h0]
  refine ⟨(n % 18446744073709551616 % 16777216).toNat, ?_, by omega⟩
  unfold wrap64
  omega

theorem or_0 (z : Int) (h : 0 ≤ z) (h2 : z < 256) : bits .or .i64 0 z = z := by
  obtain ⟨n, rfl⟩ := Int.eq_ofNat_of_zero_le h
  rw [show (0 : Int) = ((0 : Nat) : Int) from rfl, i64_or_nat _ _ (by omega) (by omega), Nat.zero_or]
theorem or_b (x b r : Int) (h : 0 ≤ x) (hx : x < 1099511627776) (hb : 0 ≤ b) (hb2 : b < 256) (hr : x * 256 + b = r) : bits .or .i64 (x * 256) b = r := by
  obtain ⟨n, rfl⟩ := Int.eq_ofNat_of_zero_le h
  obtain ⟨m, rfl⟩ := Int.eq_ofNat_of_zero_le hb
  rw [i64_or_byte n m (by omega) (by omega)]
  omega
theorem and_m (r z : Int) (k m : Nat) (hm : (2 : Nat) ^ k - 1 = m) (hk : m < 9223372036854775808) (h : 0 ≤ r) (h2 : r < 9223372036854775808) (hz : r % (2 ^ k : Nat) = z) : bits .and .i64 r (m : Int) = z := by
  subst hm
  obtain ⟨n, rfl⟩ := Int.eq_ofNat_of_zero_le h
  rw [i64_and_nat _ _ (by omega) hk, Nat.and_two_pow_sub_one_eq_mod]
  omega

set_option maxRecDepth 100000 in
set_option maxHeartbeats 1600000 in
theorem dlen_0 (w : World) (ht : Tab w) (n : Int) (more : Nat) (hm : more < 256) (z : Int) (hz : wrap64 ((IntKind.u64.wrap n).tmod 16777216) = z) (h1 : 0 ≤ z) (h2 : z < 128)
    (hput : ∀ W, Tab W → Calls Tryd.prog 18 #[.agg #[.int .i64 0, .int .i64 4, .bool false, .int .i64 z]] W fun e w' => ∃ A cp, e = .returned (.tuple #[.slice A 2 cp, .int .i64 0]) ∧ BR w' (W.heap.size ≤ ·) (.slice A 2 cp) [4, UInt8.ofNat z.toNat] ∧ Kp (fun _ => False) W w') :
    Calls Tryd.prog 8 #[.int .i64 n, .int .u8 more] w fun e w' => e = .returned (.bool true) ∧ Below w.heap.size w w' := by
  have HP := Lib.hid hput
  have ez : ((UInt8.ofNat z.toNat).toNat : Int) = z := by rw [UInt8.toNat_ofNat']; omega
  clear hput
  have r0 := or_0 z (by omega) (by omega)
  have l1 : #[Value.int .u8 4, .int .u8 (128 + max 0 1 + 1), .int .u8 0] = (bc [4, 130, 0]).toArray := rfl
  have l2 : #[Value.int .u8 (z / 256), .int .u8 (z), .int .u8 (more : Int)] = (bc [UInt8.ofNat (z / 256).toNat, UInt8.ofNat (z).toNat, UInt8.ofNat more]).toArray := by
    simp only [bc, List.map_cons, List.map_nil, UInt8.toNat_ofNat']
    congr 2
    · congr 1
      omega
    congr 1
    · congr 1
      omega
    congr 1
    congr 1
    omega
  have hrd : rd ([4, 130, 0] ++ [UInt8.ofNat (z / 256).toNat, UInt8.ofNat (z).toNat, UInt8.ofNat more]) = ((0, 0, false, 0), 1, 13) := by
    have htop : topB 4 = true := by decide
    have hv : be (([0] ++ [UInt8.ofNat (z / 256).toNat, UInt8.ofNat (z).toNat, UInt8.ofNat more] : List UInt8).take 2) = 0 := by
      simp [be]
      omega
    show rd (4 :: 130 :: ([0] ++ [UInt8.ofNat (z / 256).toNat, UInt8.ofNat (z).toNat, UInt8.ofNat more])) = _
    rw [rd_long (k := 2) htop rfl (by omega) (by omega) (by simp) hv, if_pos (by simp)]
    rfl
  have R := Lib.hid (rdV_of hrd)
  have L1 := Lib.hid (fun W : World => Own.lit W [4, 130, 0] _ 3 W.heap.size rfl l1 (Nat.le_refl _) (by simp [maxLen]))
  have L2 := Lib.hid (fun W : World => BR.lit W 5 [UInt8.ofNat (z / 256).toNat, UInt8.ofNat (z).toNat, UInt8.ofNat more] _ 3 rfl l2)
  clear l1 l2 hrd
  go_enter Tryd.func8, Tryd.ntmps8
  go_wp2_with fail
  refine (HP.out _ ht).mono ?_
  rintro e w1 ⟨A1, c1, rfl, hb1, hk1⟩
  obtain ⟨A1', c1', e', hc1, hr1⟩ := id hb1
  injection e' with q1 q2 q3
  subst q1 q3
  obtain ⟨b, off, rfl, hbk, hcell0⟩ := Rd.byte hr1 (k := 0) (by simp)
  obtain ⟨b1', off1', ee, _, hcell1⟩ := Rd.byte hr1 (k := 1) (by simp)
  simp only [Option.some.injEq, Addr.mk.injEq, and_true] at ee
  obtain ⟨rfl, rfl⟩ := ee
  simp only [List.getElem_cons_succ, List.getElem_cons_zero, ez] at hcell1
  have HC1 := Lib.hid hcell1
  have hc12 : 2 ≤ c1 := by simpa using hc1
  clear hb1 hr1 hc1 hcell0 hcell1 ez
  go_wp2_with fail
  refine (alive09 _ (ht.kp hk1)).mono ?_
  rintro e w2 ⟨rfl, hk2⟩
  have k2 := hk1.then_ hk2 (fun _ h => h.elim)
  have hd1 : w2.cell? ⟨b, off + 1, none⟩ = some (.int .u8 z) := hk2.cell HC1.out (fun h => h)
  go_wp2_with fail
  refine wp_loop_rounds 1 ?_
  rw [rounds_succ]
  go_wp2_with fail
  refine wp_loop_rounds 2 ?_
  rw [rounds_succ]
  go_wp2_with fail
  have O1 := Lib.hid ((L1.out w2).kp ((Kp.refl (fun _ => False) _).alloc (.cells #[.int .u8 (z / 256), .int .u8 (z), .int .u8 (more : Int)] 5)) (fun _ _ h => h))
  have l0 := L2.out (w2.alloc (.cells #[.int .u8 4, .int .u8 (128 + max 0 1 + 1), .int .u8 0] 5))
  simp only [World.size_alloc] at l0
  have L0 := Lib.hid l0
  clear l0
  rw [rounds_succ]
  go_wp2_with (at_builtin; refine app_bytes rfl (.tmp 108) (.tmp 115) rfl w2.heap.size _ 3 _ [4, 130, 0] rfl rfl O1.out _ _ 3 _ [UInt8.ofNat (z / 256).toNat, UInt8.ofNat (z).toNat, UInt8.ofNat more] rfl rfl L0.out 6 rfl (by omega) (by simp only [World.size_alloc]; omega) ?_; intro A3 c3 W3 o3 q3; have O3 := Lib.hid o3; have Q3 := Lib.hid q3; clear o3 q3)
  have k3 : Kp (fun _ => False) w W3 := ((k2.alloc _).alloc _).then_ Q3.out (fun i hi => .inr (by have := k2.size; omega))
  refine (read_any _ _ _ _ (O3.out.br rfl) (ht.kp k3) (by simp)).mono ?_
  rw [R.out]
  rintro e w4 ⟨rfl, hk4⟩
  go_wp2_with fail
  go_ret
  exact ⟨by simp, ((k3.then_ hk4 (fun _ h => h.elim)).alloc _).below⟩

set_option maxRecDepth 100000 in
set_option maxHeartbeats 1600000 in
theorem dlen_1 (w : World) (ht : Tab w) (n : Int) (more : Nat) (hm : more < 256) (z : Int) (hz : wrap64 ((IntKind.u64.wrap n).tmod 16777216) = z) (h1 : 128 ≤ z) (h2 : z < 256)
    (hput : ∀ W, Tab W → Calls Tryd.prog 18 #[.agg #[.int .i64 0, .int .i64 4, .bool false, .int .i64 z]] W fun e w' => ∃ A cp, e = .returned (.tuple #[.slice A 3 cp, .int .i64 0]) ∧ BR w' (W.heap.size ≤ ·) (.slice A 3 cp) [4, 129, UInt8.ofNat z.toNat] ∧ Kp (fun _ => False) W w') :
    Calls Tryd.prog 8 #[.int .i64 n, .int .u8 more] w fun e w' => e = .returned (.bool true) ∧ Below w.heap.size w w' := by
  have HP := Lib.hid hput
  have ez : ((UInt8.ofNat z.toNat).toNat : Int) = z := by rw [UInt8.toNat_ofNat']; omega
  clear hput
  have r0 := or_0 129 (by omega) (by omega)
  obtain ⟨y1, hy1⟩ : ∃ y1 : Int, 129 * 256 + z = y1 := ⟨_, rfl⟩
  have r1 := or_b 129 z y1 (by omega) (by omega) (by omega) (by omega) hy1
  have r1b : bits .or .i64 33024 z = y1 := r1
  have ra : bits .and .i64 y1 255 = z := and_m y1 z 8 255 rfl (by omega) (by omega) (by omega) (by simp; omega)
  have b1 : 0 ≤ y1 := by omega
  have b2 : y1 ≤ 4294967296 := by omega
  have HY := Lib.hid hy1
  clear hy1
  have l1 : #[Value.int .u8 4, .int .u8 (128 + max 1 1 + 1), .int .u8 0] = (bc [4, 130, 0]).toArray := rfl
  have l2 : #[Value.int .u8 (z / 256), .int .u8 (z), .int .u8 (more : Int)] = (bc [UInt8.ofNat (z / 256).toNat, UInt8.ofNat (z).toNat, UInt8.ofNat more]).toArray := by
    simp only [bc, List.map_cons, List.map_nil, UInt8.toNat_ofNat']
    congr 2
    · congr 1
      omega
    congr 1
    · congr 1
      omega
    congr 1
    congr 1
    omega
  have hrd : rd ([4, 130, 0] ++ [UInt8.ofNat (z / 256).toNat, UInt8.ofNat (z).toNat, UInt8.ofNat more]) = ((0, 0, false, 0), 1, 13) := by
    have htop : topB 4 = true := by decide
    have hv : be (([0] ++ [UInt8.ofNat (z / 256).toNat, UInt8.ofNat (z).toNat, UInt8.ofNat more] : List UInt8).take 2) = 0 := by
      simp [be]
      omega
    show rd (4 :: 130 :: ([0] ++ [UInt8.ofNat (z / 256).toNat, UInt8.ofNat (z).toNat, UInt8.ofNat more])) = _
    rw [rd_long (k := 2) htop rfl (by omega) (by omega) (by simp) hv, if_pos (by simp)]
    rfl
  have R := Lib.hid (rdV_of hrd)
  have L1 := Lib.hid (fun W : World => Own.lit W [4, 130, 0] _ 3 W.heap.size rfl l1 (Nat.le_refl _) (by simp [maxLen]))
  have L2 := Lib.hid (fun W : World => BR.lit W 5 [UInt8.ofNat (z / 256).toNat, UInt8.ofNat (z).toNat, UInt8.ofNat more] _ 3 rfl l2)
  clear l1 l2 hrd
  go_enter Tryd.func8, Tryd.ntmps8
  go_wp2_with fail
  refine (HP.out _ ht).mono ?_
  rintro e w1 ⟨A1, c1, rfl, hb1, hk1⟩
  obtain ⟨A1', c1', e', hc1, hr1⟩ := id hb1
  injection e' with q1 q2 q3
  subst q1 q3
  obtain ⟨b, off, rfl, hbk, hcell0⟩ := Rd.byte hr1 (k := 0) (by simp)
  obtain ⟨b1', off1', ee, _, hcell1⟩ := Rd.byte hr1 (k := 1) (by simp)
  simp only [Option.some.injEq, Addr.mk.injEq, and_true] at ee
  obtain ⟨rfl, rfl⟩ := ee
  obtain ⟨b2', off2', ee, _, hcell2⟩ := Rd.byte hr1 (k := 2) (by simp)
  simp only [Option.some.injEq, Addr.mk.injEq, and_true] at ee
  obtain ⟨rfl, rfl⟩ := ee
  simp only [List.getElem_cons_succ, List.getElem_cons_zero, ez] at hcell1 hcell2
  have HC1 := Lib.hid hcell1
  have HC2 := Lib.hid hcell2
  have hc12 : 3 ≤ c1 := by simpa using hc1
  clear hb1 hr1 hc1 hcell0 hcell1 hcell2 ez
  go_wp2_with fail
  refine (alive09 _ (ht.kp hk1)).mono ?_
  rintro e w2 ⟨rfl, hk2⟩
  have k2 := hk1.then_ hk2 (fun _ h => h.elim)
  have hd1 : w2.cell? ⟨b, off + 1, none⟩ = some (.int .u8 129) := hk2.cell HC1.out (fun h => h)
  have hd2 : w2.cell? ⟨b, off + 2, none⟩ = some (.int .u8 z) := hk2.cell HC2.out (fun h => h)
  go_wp2_with fail
  refine wp_loop_rounds 2 ?_
  rw [rounds_succ]
  go_wp2_with fail
  rw [rounds_succ]
  go_wp2_with fail
  refine wp_loop_rounds 3 ?_
  rw [rounds_succ]
  go_wp2_with fail
  rw [rounds_succ]
  go_wp2_with fail
  have O1 := Lib.hid ((L1.out w2).kp ((Kp.refl (fun _ => False) _).alloc (.cells #[.int .u8 (z / 256), .int .u8 (z), .int .u8 (more : Int)] 5)) (fun _ _ h => h))
  have l0 := L2.out (w2.alloc (.cells #[.int .u8 4, .int .u8 (128 + max 1 1 + 1), .int .u8 0] 5))
  simp only [World.size_alloc] at l0
  have L0 := Lib.hid l0
  clear l0
  rw [rounds_succ]
  go_wp2_with (at_builtin; refine app_bytes rfl (.tmp 108) (.tmp 115) rfl w2.heap.size _ 3 _ [4, 130, 0] rfl rfl O1.out _ _ 3 _ [UInt8.ofNat (z / 256).toNat, UInt8.ofNat (z).toNat, UInt8.ofNat more] rfl rfl L0.out 6 rfl (by omega) (by simp only [World.size_alloc]; omega) ?_; intro A3 c3 W3 o3 q3; have O3 := Lib.hid o3; have Q3 := Lib.hid q3; clear o3 q3)
  have k3 : Kp (fun _ => False) w W3 := ((k2.alloc _).alloc _).then_ Q3.out (fun i hi => .inr (by have := k2.size; omega))
  refine (read_any _ _ _ _ (O3.out.br rfl) (ht.kp k3) (by simp)).mono ?_
  rw [R.out]
  rintro e w4 ⟨rfl, hk4⟩
  go_wp2_with fail
  go_ret
  exact ⟨by simp, ((k3.then_ hk4 (fun _ h => h.elim)).alloc _).below⟩

set_option maxRecDepth 100000 in
set_option maxHeartbeats 1600000 in
theorem dlen_2 (w : World) (ht : Tab w) (n : Int) (more : Nat) (hm : more < 256) (z : Int) (hz : wrap64 ((IntKind.u64.wrap n).tmod 16777216) = z) (h1 : 256 ≤ z) (h2 : z < 65536) (p : Int) (gp : 0 ≤ p) (kp : p < 256) (q : Int) (gq : 0 ≤ q) (kq : q < 256) (hpq : z = p * 256 + q)
    (hput : ∀ W, Tab W → Calls Tryd.prog 18 #[.agg #[.int .i64 0, .int .i64 4, .bool false, .int .i64 z]] W fun e w' => ∃ A cp, e = .returned (.tuple #[.slice A 4 cp, .int .i64 0]) ∧ BR w' (W.heap.size ≤ ·) (.slice A 4 cp) [4, 130, UInt8.ofNat p.toNat, UInt8.ofNat q.toNat] ∧ Kp (fun _ => False) W w') :
    Calls Tryd.prog 8 #[.int .i64 n, .int .u8 more] w fun e w' => e = .returned (.bool true) ∧ Below w.heap.size w w' := by
  have HP := Lib.hid hput
  have ep : ((UInt8.ofNat p.toNat).toNat : Int) = p := by rw [UInt8.toNat_ofNat']; omega
  have eq : ((UInt8.ofNat q.toNat).toNat : Int) = q := by rw [UInt8.toNat_ofNat']; omega
  clear hput
  have r0 := or_0 130 (by omega) (by omega)
  obtain ⟨y1, hy1⟩ : ∃ y1 : Int, 130 * 256 + p = y1 := ⟨_, rfl⟩
  have r1 := or_b 130 p y1 (by omega) (by omega) (by omega) (by omega) hy1
  have r1b : bits .or .i64 33280 p = y1 := r1
  obtain ⟨y2, hy2⟩ : ∃ y2 : Int, y1 * 256 + q = y2 := ⟨_, rfl⟩
  have r2 := or_b y1 q y2 (by omega) (by omega) (by omega) (by omega) hy2
  have ra : bits .and .i64 y2 65535 = z := and_m y2 z 16 65535 rfl (by omega) (by omega) (by omega) (by simp; omega)
  have by1 : 0 ≤ y1 := by omega
  have cy1 : y1 ≤ 1099511627776 := by omega
  have by2 : 0 ≤ y2 := by omega
  have cy2 : y2 ≤ 1099511627776 := by omega
  clear hy1 hy2
  clear hpq
  have l1 : #[Value.int .u8 4, .int .u8 (128 + max 2 1 + 1), .int .u8 0] = (bc [4, 131, 0]).toArray := rfl
  have l2 : #[Value.int .u8 (z / 256), .int .u8 (z % 256), .int .u8 (more : Int)] = (bc [UInt8.ofNat (z / 256).toNat, UInt8.ofNat (z % 256).toNat, UInt8.ofNat more]).toArray := by
    simp only [bc, List.map_cons, List.map_nil, UInt8.toNat_ofNat']
    congr 2
    · congr 1
      omega
    congr 1
    · congr 1
      omega
    congr 1
    congr 1
    omega
  have hrd : rd ([4, 131, 0] ++ [UInt8.ofNat (z / 256).toNat, UInt8.ofNat (z % 256).toNat, UInt8.ofNat more]) = ((0, 0, false, 0), 1, 13) := by
    have htop : topB 4 = true := by decide
    have hv : be (([0] ++ [UInt8.ofNat (z / 256).toNat, UInt8.ofNat (z % 256).toNat, UInt8.ofNat more] : List UInt8).take 3) = z.toNat := by
      simp [be]
      omega
    show rd (4 :: 131 :: ([0] ++ [UInt8.ofNat (z / 256).toNat, UInt8.ofNat (z % 256).toNat, UInt8.ofNat more])) = _
    rw [rd_long (k := 3) htop rfl (by omega) (by omega) (by simp) hv, if_pos (by simp; omega)]
    rfl
  have R := Lib.hid (rdV_of hrd)
  have L1 := Lib.hid (fun W : World => Own.lit W [4, 131, 0] _ 3 W.heap.size rfl l1 (Nat.le_refl _) (by simp [maxLen]))
  have L2 := Lib.hid (fun W : World => BR.lit W 5 [UInt8.ofNat (z / 256).toNat, UInt8.ofNat (z % 256).toNat, UInt8.ofNat more] _ 3 rfl l2)
  clear l1 l2 hrd
  go_enter Tryd.func8, Tryd.ntmps8
  go_wp2_with fail
  refine (HP.out _ ht).mono ?_
  rintro e w1 ⟨A1, c1, rfl, hb1, hk1⟩
  obtain ⟨A1', c1', e', hc1, hr1⟩ := id hb1
  injection e' with q1 q2 q3
  subst q1 q3
  obtain ⟨b, off, rfl, hbk, hcell0⟩ := Rd.byte hr1 (k := 0) (by simp)
  obtain ⟨b1', off1', ee, _, hcell1⟩ := Rd.byte hr1 (k := 1) (by simp)
  simp only [Option.some.injEq, Addr.mk.injEq, and_true] at ee
  obtain ⟨rfl, rfl⟩ := ee
  obtain ⟨b2', off2', ee, _, hcell2⟩ := Rd.byte hr1 (k := 2) (by simp)
  simp only [Option.some.injEq, Addr.mk.injEq, and_true] at ee
  obtain ⟨rfl, rfl⟩ := ee
  obtain ⟨b3', off3', ee, _, hcell3⟩ := Rd.byte hr1 (k := 3) (by simp)
  simp only [Option.some.injEq, Addr.mk.injEq, and_true] at ee
  obtain ⟨rfl, rfl⟩ := ee
  simp only [List.getElem_cons_succ, List.getElem_cons_zero, ep, eq] at hcell1 hcell2 hcell3
  have HC1 := Lib.hid hcell1
  have HC2 := Lib.hid hcell2
  have HC3 := Lib.hid hcell3
  have hc12 : 4 ≤ c1 := by simpa using hc1
  clear hb1 hr1 hc1 hcell0 hcell1 hcell2 hcell3 ep eq
  go_wp2_with fail
  refine (alive09 _ (ht.kp hk1)).mono ?_
  rintro e w2 ⟨rfl, hk2⟩
  have k2 := hk1.then_ hk2 (fun _ h => h.elim)
  have hd1 : w2.cell? ⟨b, off + 1, none⟩ = some (.int .u8 130) := hk2.cell HC1.out (fun h => h)
  have hd2 : w2.cell? ⟨b, off + 2, none⟩ = some (.int .u8 p) := hk2.cell HC2.out (fun h => h)
  have hd3 : w2.cell? ⟨b, off + 3, none⟩ = some (.int .u8 q) := hk2.cell HC3.out (fun h => h)
  go_wp2_with fail
  refine wp_loop_rounds 3 ?_
  rw [rounds_succ]
  go_wp2_with fail
  rw [rounds_succ]
  go_wp2_with fail
  rw [rounds_succ]
  go_wp2_with fail
  refine wp_loop_rounds 4 ?_
  rw [rounds_succ]
  go_wp2_with fail
  rw [rounds_succ]
  go_wp2_with fail
  rw [rounds_succ]
  go_wp2_with fail
  have O1 := Lib.hid ((L1.out w2).kp ((Kp.refl (fun _ => False) _).alloc (.cells #[.int .u8 (z / 256), .int .u8 (z % 256), .int .u8 (more : Int)] 5)) (fun _ _ h => h))
  have l0 := L2.out (w2.alloc (.cells #[.int .u8 4, .int .u8 (128 + max 2 1 + 1), .int .u8 0] 5))
  simp only [World.size_alloc] at l0
  have L0 := Lib.hid l0
  clear l0
  rw [rounds_succ]
  go_wp2_with (at_builtin; refine app_bytes rfl (.tmp 108) (.tmp 115) rfl w2.heap.size _ 3 _ [4, 131, 0] rfl rfl O1.out _ _ 3 _ [UInt8.ofNat (z / 256).toNat, UInt8.ofNat (z % 256).toNat, UInt8.ofNat more] rfl rfl L0.out 6 rfl (by omega) (by simp only [World.size_alloc]; omega) ?_; intro A3 c3 W3 o3 q3; have O3 := Lib.hid o3; have Q3 := Lib.hid q3; clear o3 q3)
  have k3 : Kp (fun _ => False) w W3 := ((k2.alloc _).alloc _).then_ Q3.out (fun i hi => .inr (by have := k2.size; omega))
  refine (read_any _ _ _ _ (O3.out.br rfl) (ht.kp k3) (by simp)).mono ?_
  rw [R.out]
  rintro e w4 ⟨rfl, hk4⟩
  go_wp2_with fail
  go_ret
  exact ⟨by simp, ((k3.then_ hk4 (fun _ h => h.elim)).alloc _).below⟩

set_option maxRecDepth 100000 in
set_option maxHeartbeats 1600000 in
theorem dlen_3 (w : World) (ht : Tab w) (n : Int) (more : Nat) (_hm : more < 256) (z : Int) (hz : wrap64 ((IntKind.u64.wrap n).tmod 16777216) = z) (h1 : 65536 ≤ z) (h2 : z < 16777216) (p : Int) (gp : 0 ≤ p) (kp : p < 256) (q : Int) (gq : 0 ≤ q) (kq : q < 256) (s : Int) (gs : 0 ≤ s) (ks : s < 256) (hpq : z = p * 65536 + q * 256 + s)
    (hput : ∀ W, Tab W → Calls Tryd.prog 18 #[.agg #[.int .i64 0, .int .i64 4, .bool false, .int .i64 z]] W fun e w' => ∃ A cp, e = .returned (.tuple #[.slice A 5 cp, .int .i64 0]) ∧ BR w' (W.heap.size ≤ ·) (.slice A 5 cp) [4, 131, UInt8.ofNat p.toNat, UInt8.ofNat q.toNat, UInt8.ofNat s.toNat] ∧ Kp (fun _ => False) W w') :
    Calls Tryd.prog 8 #[.int .i64 n, .int .u8 more] w fun e w' => e = .returned (.bool true) ∧ Below w.heap.size w w' := by
  have HP := Lib.hid hput
  have ep : ((UInt8.ofNat p.toNat).toNat : Int) = p := by rw [UInt8.toNat_ofNat']; omega
  have eq : ((UInt8.ofNat q.toNat).toNat : Int) = q := by rw [UInt8.toNat_ofNat']; omega
  have es : ((UInt8.ofNat s.toNat).toNat : Int) = s := by rw [UInt8.toNat_ofNat']; omega
  clear hput
  have r0 := or_0 131 (by omega) (by omega)
  obtain ⟨y1, hy1⟩ : ∃ y1 : Int, 131 * 256 + p = y1 := ⟨_, rfl⟩
  have r1 := or_b 131 p y1 (by omega) (by omega) (by omega) (by omega) hy1
  have r1b : bits .or .i64 33536 p = y1 := r1
  obtain ⟨y2, hy2⟩ : ∃ y2 : Int, y1 * 256 + q = y2 := ⟨_, rfl⟩
  have r2 := or_b y1 q y2 (by omega) (by omega) (by omega) (by omega) hy2
  obtain ⟨y3, hy3⟩ : ∃ y3 : Int, y2 * 256 + s = y3 := ⟨_, rfl⟩
  have r3 := or_b y2 s y3 (by omega) (by omega) (by omega) (by omega) hy3
  have ra : bits .and .i64 y3 16777215 = z := and_m y3 z 24 16777215 rfl (by omega) (by omega) (by omega) (by simp; omega)
  have by1 : 0 ≤ y1 := by omega
  have cy1 : y1 ≤ 1099511627776 := by omega
  have by2 : 0 ≤ y2 := by omega
  have cy2 : y2 ≤ 1099511627776 := by omega
  have by3 : 0 ≤ y3 := by omega
  have cy3 : y3 ≤ 1099511627776 := by omega
  clear hy1 hy2 hy3
  clear hpq
  go_enter Tryd.func8, Tryd.ntmps8
  go_wp2_with fail
  refine (HP.out _ ht).mono ?_
  rintro e w1 ⟨A1, c1, rfl, hb1, hk1⟩
  obtain ⟨A1', c1', e', hc1, hr1⟩ := id hb1
  injection e' with q1 q2 q3
  subst q1 q3
  obtain ⟨b, off, rfl, hbk, hcell0⟩ := Rd.byte hr1 (k := 0) (by simp)
  obtain ⟨b1', off1', ee, _, hcell1⟩ := Rd.byte hr1 (k := 1) (by simp)
  simp only [Option.some.injEq, Addr.mk.injEq, and_true] at ee
  obtain ⟨rfl, rfl⟩ := ee
  obtain ⟨b2', off2', ee, _, hcell2⟩ := Rd.byte hr1 (k := 2) (by simp)
  simp only [Option.some.injEq, Addr.mk.injEq, and_true] at ee
  obtain ⟨rfl, rfl⟩ := ee
  obtain ⟨b3', off3', ee, _, hcell3⟩ := Rd.byte hr1 (k := 3) (by simp)
  simp only [Option.some.injEq, Addr.mk.injEq, and_true] at ee
  obtain ⟨rfl, rfl⟩ := ee
  obtain ⟨b4', off4', ee, _, hcell4⟩ := Rd.byte hr1 (k := 4) (by simp)
  simp only [Option.some.injEq, Addr.mk.injEq, and_true] at ee
  obtain ⟨rfl, rfl⟩ := ee
  simp only [List.getElem_cons_succ, List.getElem_cons_zero, ep, eq, es] at hcell1 hcell2 hcell3 hcell4
  have HC1 := Lib.hid hcell1
  have HC2 := Lib.hid hcell2
  have HC3 := Lib.hid hcell3
  have HC4 := Lib.hid hcell4
  have hc12 : 5 ≤ c1 := by simpa using hc1
  clear hb1 hr1 hc1 hcell0 hcell1 hcell2 hcell3 hcell4 ep eq es
  go_wp2_with fail
  refine (alive09 _ (ht.kp hk1)).mono ?_
  rintro e w2 ⟨rfl, hk2⟩
  have k2 := hk1.then_ hk2 (fun _ h => h.elim)
  have hd1 : w2.cell? ⟨b, off + 1, none⟩ = some (.int .u8 131) := hk2.cell HC1.out (fun h => h)
  have hd2 : w2.cell? ⟨b, off + 2, none⟩ = some (.int .u8 p) := hk2.cell HC2.out (fun h => h)
  have hd3 : w2.cell? ⟨b, off + 3, none⟩ = some (.int .u8 q) := hk2.cell HC3.out (fun h => h)
  have hd4 : w2.cell? ⟨b, off + 4, none⟩ = some (.int .u8 s) := hk2.cell HC4.out (fun h => h)
  go_wp2_with fail
  refine wp_loop_rounds 4 ?_
  rw [rounds_succ]
  go_wp2_with fail
  rw [rounds_succ]
  go_wp2_with fail
  rw [rounds_succ]
  go_wp2_with fail
  rw [rounds_succ]
  go_wp2_with fail
  refine wp_loop_rounds 5 ?_
  rw [rounds_succ]
  go_wp2_with fail
  rw [rounds_succ]
  go_wp2_with fail
  rw [rounds_succ]
  go_wp2_with fail
  rw [rounds_succ]
  go_wp2_with fail
  rw [rounds_succ]
  go_wp2_with fail
  go_ret
  exact ⟨rfl, k2.below⟩

theorem put_len4 (k : Nat) (hk : k ≤ 16777215) : ∀ W, Tab W → Calls Tryd.prog 18 #[.agg #[.int .i64 0, .int .i64 4, .bool false, .int .i64 k]] W fun e w' => ∃ A cp, e = .returned (.tuple #[.slice A (4 :: lenB k).length cp, .int .i64 0]) ∧ BR w' (W.heap.size ≤ ·) (.slice A (4 :: lenB k).length cp) (4 :: lenB k) ∧ Kp (fun _ => False) W w' := by
  intro W hW
  have h := put_any W hW 0 4 false k
  unfold PutP at h
  have hpt : pt 0 4 false k = (4 :: lenB k, 0) := by
    rw [pt, if_pos (by decide), if_neg (by omega), Int.toNat_natCast]
    rfl
  simp only [hpt] at h
  exact h

theorem dlen_walk (w : World) (ht : Tab w) (n : Int) (_hn : (Lit.int .i64 n).wf = true) (more : Int) (hm : (Lit.int .u8 more).wf = true) :
    Calls Tryd.prog 8 #[.int .i64 n, .int .u8 more] w fun e w' => e = .returned (.bool true) ∧ Below w.heap.size w w' := by
  obtain ⟨q0, q1⟩ := bounds_u8 hm
  obtain ⟨more, rfl⟩ := Int.eq_ofNat_of_zero_le q0
  obtain ⟨k, hk, hk2⟩ := mod24 n
  have hp := put_len4 k hk2
  rcases Nat.lt_or_ge k 128 with h1 | h1
  · rw [show lenB k = [UInt8.ofNat k] by rw [lenB, if_pos h1]] at hp
    exact dlen_0 w ht n more (by omega) k hk (by omega) (by omega) hp
  rcases Nat.lt_or_ge k 256 with h2 | h2
  · rw [show lenB k = [129, UInt8.ofNat k] by rw [lenB, if_neg (by omega), if_pos h2]] at hp
    exact dlen_1 w ht n more (by omega) k hk (by omega) (by omega) hp
  rcases Nat.lt_or_ge k 65536 with h3 | h3
  · have e : UInt8.ofNat k = UInt8.ofNat (k % 256) := by
      apply UInt8.toNat_inj.1
      rw [UInt8.toNat_ofNat', UInt8.toNat_ofNat']
      omega
    rw [show lenB k = [130, UInt8.ofNat (k / 256), UInt8.ofNat (k % 256)] by rw [lenB, if_neg (by omega), if_neg (by omega), if_pos h3, ← e]; rfl] at hp
    exact dlen_2 w ht n more (by omega) k hk (by omega) (by omega) ((k / 256 : Nat) : Int) (by omega) (by omega) ((k % 256 : Nat) : Int) (by omega) (by omega) (by omega) hp
  · have e : UInt8.ofNat k = UInt8.ofNat (k % 256) := by
      apply UInt8.toNat_inj.1
      rw [UInt8.toNat_ofNat', UInt8.toNat_ofNat']
      omega
    have e2 : UInt8.ofNat (k / 256) = UInt8.ofNat (k / 256 % 256) := by
      apply UInt8.toNat_inj.1
      rw [UInt8.toNat_ofNat', UInt8.toNat_ofNat']
      omega
    rw [show lenB k = [131, UInt8.ofNat (k / 65536), UInt8.ofNat (k / 256 % 256), UInt8.ofNat (k % 256)] by
      rw [lenB, if_neg (by omega), if_neg (by omega), if_neg (by omega), ← e, ← e2]
      show 131 :: (([] ++ [UInt8.ofNat (k / 256 / 256)]) ++ [UInt8.ofNat (k / 256)] ++ [UInt8.ofNat k]) = _
      rw [Nat.div_div_eq_div_mul]
      rfl] at hp
    exact dlen_3 w ht n more (by omega) k hk (by omega) (by omega) ((k / 65536 : Nat) : Int) (by omega) (by omega) ((k / 256 % 256 : Nat) : Int) (by omega) (by omega) ((k % 256 : Nat) : Int) (by omega) (by omega) (by omega) hp
end Go.Proofs.YtjdfgjlbmbiihaaDoor
