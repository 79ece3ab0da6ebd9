/-
  dertag.Read: what it answers, of any bytes.
-/
import Derived.Test.YtjdfgjlbmbiihaaDoorDk
namespace Go.Proofs.YtjdfgjlbmbiihaaDoor
open Go.RowKit

theorem i64_or_nat (a b : Nat) (ha : a < 9223372036854775808) (hb : b < 9223372036854775808) : bits .or .i64 (a : Int) (b : Int) = ((a ||| b : Nat) : Int) := by
  have hx : a ||| b < 2 ^ 63 := Nat.or_lt_two_pow (by omega) (by omega)
  show IntKind.i64.wrap ((BitVec.ofInt 64 (a : Int) ||| BitVec.ofInt 64 (b : Int)).toNat : Int) = _
  rw [BitVec.toNat_or, ofInt_u64 a (by omega), ofInt_u64 b (by omega)]
  simp [IntKind.wrap, IntKind.bits, IntKind.signed]
  omega
theorem i64_or_byte (x b : Nat) (hb : b < 256) (hx : x < 36028797018963968) : bits .or .i64 ((x : Int) * 256) (b : Int) = ((x * 256 + b : Nat) : Int) := by
  rw [show ((x : Int) * 256) = ((x * 256 : Nat) : Int) from by omega, i64_or_nat _ _ (by omega) (by omega)]
  have := Nat.two_pow_add_eq_or_of_lt (i := 8) (b := b) (by omega) x
  rw [show x * 256 = 2 ^ 8 * x from by omega, this]
theorem u8_bit5 (x : Nat) (hx : x < 256) : decide (0 < bits .and .u8 (x : Int) 32) = (x / 32 % 2 == 1) := by
  rw [show (32 : Int) = ((32 : Nat) : Int) from rfl, u8_and_nat _ _ hx (by omega), show (32 : Nat) = 2 ^ 5 from rfl, nat_bit]
  rcases Nat.mod_two_eq_zero_or_one (x / 2 ^ 5) with h | h
  · rw [h]; rfl
  · rw [h]; rfl

/-- A head as a value. -/
def hdV (h : Int × Int × Bool × Int) : Value := .agg #[.int .i64 h.1, .int .i64 h.2.1, .bool h.2.2.1, .int .i64 h.2.2.2]
def hd0 : Int × Int × Bool × Int := (0, 0, false, 0)
/-- The head whose first byte this is. -/
def hdB (b : UInt8) (n : Nat) : Int × Int × Bool × Int := ((b.toNat : Int) / 64, (b.toNat : Int) % 32, b.toNat / 32 % 2 == 1, n)
def topB (b : UInt8) : Bool := kindB ((b.toNat : Int) / 64) ((b.toNat : Int) % 32) (b.toNat / 32 % 2 == 1)
/-- What is read of bytes: the head, how many bytes, the error. -/
def rd : List UInt8 → (Int × Int × Bool × Int) × Int × Int
  | [] => (hd0, 0, 4)
  | [b] => if topB b then (hd0, 1, 4) else (hd0, 0, 13)
  | b :: c :: u =>
    if topB b then
      if c.toNat < 128 then (hdB b c.toNat, 2, 0)
      else if c.toNat = 128 ∨ 131 < c.toNat then (hd0, 1, 13)
      else if u.length < c.toNat - 128 then (hd0, u.length + 2, 4)
      else if be (u.take (c.toNat - 128)) < 128 ∨ be (u.take (c.toNat - 128)) / 256 ^ (c.toNat - 129) = 0 then (hd0, 1, 13)
      else (hdB b (be (u.take (c.toNat - 128))), (c.toNat - 126 : Nat), 0)
    else (hd0, 0, 13)
def rdV (l : List UInt8) : Value := .tuple #[hdV (rd l).1, .int .i64 (rd l).2.1, .int .i64 (rd l).2.2]
theorem rd_bad {b : UInt8} (h : topB b = false) (t : List UInt8) : rd (b :: t) = (hd0, 0, 13) := by
  cases t <;> simp [rd, h]

theorem rd_long {b c : UInt8} {u : List UInt8} {k L : Nat} (htop : topB b = true) (hc : c.toNat = 128 + k) (h1 : 1 ≤ k) (h3 : k ≤ 3) (hu : k ≤ u.length) (hL : be (u.take k) = L) :
    rd (b :: c :: u) = if L < 128 ∨ L / 256 ^ (k - 1) = 0 then (hd0, 1, 13) else (hdB b L, (k : Int) + 2, 0) := by
  have e1 : c.toNat - 128 = k := by omega
  have e2 : c.toNat - 129 = k - 1 := by omega
  have e3 : c.toNat - 126 = k + 2 := by omega
  rw [rd, if_pos htop, if_neg (by omega), if_neg (by omega), e1, e2, e3, if_neg (by omega), hL]
  rfl

set_option maxRecDepth 100000 in
theorem read_nil (w : World) (ok : Nat → Prop) (v : Value) (hv : BR w ok v []) : Calls Tryd.prog 14 #[v] w fun e w' => e = .returned (rdV []) ∧ Kp (fun _ => False) w w' := by
  obtain ⟨A, cp, rfl, hlc, hr⟩ := id hv
  have hkk : Kp (fun _ => False) w (w.alloc (.cells #[.int .i64 0, .int .i64 0, .bool false, .int .i64 0] 24)) := (Kp.refl _ _).alloc _
  have HKK := Lib.hid hkk
  clear hkk
  go_enter Tryd.func14, Tryd.ntmps14
  go_wp2_with fail
  refine bodyPost_ret (v := .tuple #[hdV hd0, .int .i64 0, .int .i64 4]) (by simp [results, Tryd.results14, go_sem, hdV, hd0]) rfl ⟨rfl, HKK.out⟩

set_option maxRecDepth 100000 in
set_option maxHeartbeats 1600000 in
theorem read_bad (w : World) (ok : Nat → Prop) (b : UInt8) (t : List UInt8) (v : Value) (hv : BR w ok v (b :: t)) (htab : Tab w) (hl : (b :: t).length ≤ 140737488355328) (htop : topB b = false) :
    Calls Tryd.prog 14 #[v] w fun e w' => e = .returned (rdV (b :: t)) ∧ Kp (fun _ => False) w w' := by
  obtain ⟨A, cp, rfl, hlc, hr⟩ := id hv
  obtain ⟨g, off, rfl, hok, -⟩ := hr.byte (k := 0) (by simp)
  have hcell : ∀ k (hk : k < (b :: t).length), w.cell? ⟨g, off + k, none⟩ = some (.int .u8 ((b :: t)[k].toNat : Int)) := by
    intro k hk
    obtain ⟨g', off', e', _, h⟩ := hr.byte hk
    simp only [Option.some.injEq, Addr.mk.injEq, and_true] at e'
    obtain ⟨rfl, rfl⟩ := e'
    exact h
  obtain ⟨x, hx⟩ : ∃ x : Nat, b.toNat = x := ⟨_, rfl⟩
  obtain ⟨m, hm'⟩ : ∃ m, (x / 32 % 2 == 1) = m := ⟨_, rfl⟩
  have hlt := b.toNat_lt
  rw [hx] at hlt
  have c0 : w.cell? ⟨g, off, none⟩ = some (.int .u8 x) := by have := hcell 0 (by (try simp); (try omega)); first | (simp [*]; done) | simpa [*] using this
  have d0 : ∀ o, (w.alloc o).cell? ⟨g, off, none⟩ = some (.int .u8 x) := fun o => ((Kp.refl (fun _ => False) w).alloc o).cell c0 (fun h => h)
  have e0 : ∀ o1 o2, ((w.alloc o1).alloc o2).cell? ⟨g, off, none⟩ = some (.int .u8 x) := fun o1 o2 => (((Kp.refl (fun _ => False) w).alloc o1).alloc o2).cell c0 (fun h => h)
  have hm : decide (0 < bits .and .u8 (x : Int) 32) = m := by rw [u8_bit5 x hlt]; exact hm'
  have HK : Hid (¬ kindB (x / 64) (x % 32) m = true) := Lib.hid (by simpa [topB, hx, hm'] using htop)
  have KK : Hid (Kp (fun _ => False) w ((w.alloc (.cells #[.int .i64 0, .int .i64 0, .bool false, .int .i64 0] 24)).alloc (.cells #[.int .i64 (↑x / 64), .int .i64 (↑x % 32), .bool m, .int .i64 0] 24)).drew) := Lib.hid ((((Kp.refl _ _).alloc _).alloc _).drew)
  have HR : Hid (rdV (b :: t) = .tuple #[hdV hd0, .int .i64 0, .int .i64 13]) := Lib.hid (by rw [rdV, rd_bad htop])
  clear hcell hr hv hm' hx htop
  rw [List.length_cons] at *
  generalize t.length = n at *
  go_enter Tryd.func14, Tryd.ntmps14
  go_wp2_with fail
  go_region
  go_wp2_with fail
  refine (kind_any _ _ _ _ (htab.kp KK.out)).mono ?_
  rintro e w2 ⟨rfl, rfl⟩
  rw [if_neg HK.out]
  go_wp2_with fail
  refine bodyPost_ret (v := .tuple #[hdV hd0, .int .i64 0, .int .i64 13]) (by simp [results, Tryd.results14, go_sem, hdV, hd0]) rfl ⟨by rw [HR.out], KK.out⟩

set_option maxRecDepth 100000 in
set_option maxHeartbeats 1600000 in
theorem read_one (w : World) (ok : Nat → Prop) (b : UInt8) (v : Value) (hv : BR w ok v ([b])) (htab : Tab w) (_hl : ([b]).length ≤ 140737488355328) (htop : topB b = true) :
    Calls Tryd.prog 14 #[v] w fun e w' => e = .returned (rdV ([b])) ∧ Kp (fun _ => False) w w' := by
  obtain ⟨A, cp, rfl, hlc, hr⟩ := id hv
  obtain ⟨g, off, rfl, hok, -⟩ := hr.byte (k := 0) (by simp)
  have hcell : ∀ k (hk : k < ([b]).length), w.cell? ⟨g, off + k, none⟩ = some (.int .u8 (([b])[k].toNat : Int)) := by
    intro k hk
    obtain ⟨g', off', e', _, h⟩ := hr.byte hk
    simp only [Option.some.injEq, Addr.mk.injEq, and_true] at e'
    obtain ⟨rfl, rfl⟩ := e'
    exact h
  obtain ⟨x, hx⟩ : ∃ x : Nat, b.toNat = x := ⟨_, rfl⟩
  obtain ⟨m, hm'⟩ : ∃ m, (x / 32 % 2 == 1) = m := ⟨_, rfl⟩
  have hlt := b.toNat_lt
  rw [hx] at hlt
  have c0 : w.cell? ⟨g, off, none⟩ = some (.int .u8 x) := by have := hcell 0 (by (try simp); (try omega)); first | (simp [*]; done) | simpa [*] using this
  have d0 : ∀ o, (w.alloc o).cell? ⟨g, off, none⟩ = some (.int .u8 x) := fun o => ((Kp.refl (fun _ => False) w).alloc o).cell c0 (fun h => h)
  have e0 : ∀ o1 o2, ((w.alloc o1).alloc o2).cell? ⟨g, off, none⟩ = some (.int .u8 x) := fun o1 o2 => (((Kp.refl (fun _ => False) w).alloc o1).alloc o2).cell c0 (fun h => h)
  have hm : decide (0 < bits .and .u8 (x : Int) 32) = m := by rw [u8_bit5 x hlt]; exact hm'
  have HK : Hid (kindB (x / 64) (x % 32) m = true) := Lib.hid (by simpa [topB, hx, hm'] using htop)
  have KK : Hid (Kp (fun _ => False) w ((w.alloc (.cells #[.int .i64 0, .int .i64 0, .bool false, .int .i64 0] 24)).alloc (.cells #[.int .i64 (↑x / 64), .int .i64 (↑x % 32), .bool m, .int .i64 0] 24)).drew) := Lib.hid ((((Kp.refl _ _).alloc _).alloc _).drew)
  have HR : Hid (rdV [b] = .tuple #[hdV hd0, .int .i64 1, .int .i64 4]) := Lib.hid (by simp [rdV, rd, htop])
  clear hcell hr hv hm' hx htop
  rw [List.length_singleton] at *
  go_enter Tryd.func14, Tryd.ntmps14
  go_wp2_with fail
  go_region
  go_wp2_with fail
  refine (kind_any _ _ _ _ (htab.kp KK.out)).mono ?_
  rintro e w2 ⟨rfl, rfl⟩
  rw [if_pos HK.out]
  go_wp2_with fail
  refine bodyPost_ret (v := .tuple #[hdV hd0, .int .i64 1, .int .i64 4]) (by simp [results, Tryd.results14, go_sem, hdV, hd0]) rfl ⟨by rw [HR.out], KK.out⟩

set_option maxRecDepth 100000 in
set_option maxHeartbeats 1600000 in
theorem read_small (w : World) (ok : Nat → Prop) (b c : UInt8) (u : List UInt8) (hc : c.toNat < 128) (v : Value) (hv : BR w ok v (b :: c :: u)) (htab : Tab w) (hl : (b :: c :: u).length ≤ 140737488355328) (htop : topB b = true) :
    Calls Tryd.prog 14 #[v] w fun e w' => e = .returned (rdV (b :: c :: u)) ∧ Kp (fun _ => False) w w' := by
  obtain ⟨A, cp, rfl, hlc, hr⟩ := id hv
  obtain ⟨g, off, rfl, hok, -⟩ := hr.byte (k := 0) (by simp)
  have hcell : ∀ k (hk : k < (b :: c :: u).length), w.cell? ⟨g, off + k, none⟩ = some (.int .u8 ((b :: c :: u)[k].toNat : Int)) := by
    intro k hk
    obtain ⟨g', off', e', _, h⟩ := hr.byte hk
    simp only [Option.some.injEq, Addr.mk.injEq, and_true] at e'
    obtain ⟨rfl, rfl⟩ := e'
    exact h
  obtain ⟨x, hx⟩ : ∃ x : Nat, b.toNat = x := ⟨_, rfl⟩
  obtain ⟨m, hm'⟩ : ∃ m, (x / 32 % 2 == 1) = m := ⟨_, rfl⟩
  have hlt := b.toNat_lt
  rw [hx] at hlt
  obtain ⟨y, hy⟩ : ∃ y : Nat, c.toNat = y := ⟨_, rfl⟩
  rw [hy] at hc
  have c0 : w.cell? ⟨g, off, none⟩ = some (.int .u8 x) := by have := hcell 0 (by (try simp); (try omega)); first | (simp [*]; done) | simpa [*] using this
  have d0 : ∀ o, (w.alloc o).cell? ⟨g, off, none⟩ = some (.int .u8 x) := fun o => ((Kp.refl (fun _ => False) w).alloc o).cell c0 (fun h => h)
  have e0 : ∀ o1 o2, ((w.alloc o1).alloc o2).cell? ⟨g, off, none⟩ = some (.int .u8 x) := fun o1 o2 => (((Kp.refl (fun _ => False) w).alloc o1).alloc o2).cell c0 (fun h => h)
  have c1 : w.cell? ⟨g, off + 1, none⟩ = some (.int .u8 y) := by have := hcell 1 (by (try simp); (try omega)); first | (simp [*]; done) | simpa [*] using this
  have d1 : ∀ o, (w.alloc o).cell? ⟨g, off + 1, none⟩ = some (.int .u8 y) := fun o => ((Kp.refl (fun _ => False) w).alloc o).cell c1 (fun h => h)
  have e1 : ∀ o1 o2, ((w.alloc o1).alloc o2).cell? ⟨g, off + 1, none⟩ = some (.int .u8 y) := fun o1 o2 => (((Kp.refl (fun _ => False) w).alloc o1).alloc o2).cell c1 (fun h => h)
  have hm : decide (0 < bits .and .u8 (x : Int) 32) = m := by rw [u8_bit5 x hlt]; exact hm'
  have HK : Hid (kindB (x / 64) (x % 32) m = true) := Lib.hid (by simpa [topB, hx, hm'] using htop)
  have KK : Hid (Kp (fun _ => False) w ((w.alloc (.cells #[.int .i64 0, .int .i64 0, .bool false, .int .i64 0] 24)).alloc (.cells #[.int .i64 (↑x / 64), .int .i64 (↑x % 32), .bool m, .int .i64 0] 24)).drew) := Lib.hid ((((Kp.refl _ _).alloc _).alloc _).drew)
  have HR : Hid (rdV (b :: c :: u) = .tuple #[hdV (↑x / 64, ↑x % 32, m, ↑y), .int .i64 2, .int .i64 0]) := Lib.hid (by simp [rdV, rd, htop, hy, hc, hdB, hx, hm'])
  clear hcell hr hv hm' hx htop
  rw [List.length_cons, List.length_cons] at *
  generalize u.length = n at *
  clear hy
  have KS0 : ∀ z : Int, Kp (fun _ => False) w ((w.alloc (.cells #[.int .i64 (↑x / 64), .int .i64 (↑x % 32), .bool m, .int .i64 z] 24)).alloc (.cells #[.int .i64 (↑x / 64), .int .i64 (↑x % 32), .bool m, .int .i64 z] 24)).drew := fun z => ((((Kp.refl _ _).alloc _).alloc _).drew)
  have KS := Lib.hid KS0
  clear KS0
  go_enter Tryd.func14, Tryd.ntmps14
  go_wp2_with fail
  go_region
  go_wp2_with fail
  refine (kind_any _ _ _ _ (htab.kp KK.out)).mono ?_
  rintro e w2 ⟨rfl, rfl⟩
  rw [if_pos HK.out]
  go_wp2_with fail
  refine bodyPost_ret (v := .tuple #[hdV (↑x / 64, ↑x % 32, m, ↑y), .int .i64 2, .int .i64 0]) (by simp [results, Tryd.results14, go_sem, hdV]) rfl ⟨by rw [HR.out], KS.out y⟩

set_option maxRecDepth 100000 in
set_option maxHeartbeats 1600000 in
theorem read_128 (w : World) (ok : Nat → Prop) (b c : UInt8) (u : List UInt8) (hc : c.toNat = 128) (v : Value) (hv : BR w ok v (b :: c :: u)) (htab : Tab w) (hl : (b :: c :: u).length ≤ 140737488355328) (htop : topB b = true) :
    Calls Tryd.prog 14 #[v] w fun e w' => e = .returned (rdV (b :: c :: u)) ∧ Kp (fun _ => False) w w' := by
  obtain ⟨A, cp, rfl, hlc, hr⟩ := id hv
  obtain ⟨g, off, rfl, hok, -⟩ := hr.byte (k := 0) (by simp)
  have hcell : ∀ k (hk : k < (b :: c :: u).length), w.cell? ⟨g, off + k, none⟩ = some (.int .u8 ((b :: c :: u)[k].toNat : Int)) := by
    intro k hk
    obtain ⟨g', off', e', _, h⟩ := hr.byte hk
    simp only [Option.some.injEq, Addr.mk.injEq, and_true] at e'
    obtain ⟨rfl, rfl⟩ := e'
    exact h
  obtain ⟨x, hx⟩ : ∃ x : Nat, b.toNat = x := ⟨_, rfl⟩
  obtain ⟨m, hm'⟩ : ∃ m, (x / 32 % 2 == 1) = m := ⟨_, rfl⟩
  have hlt := b.toNat_lt
  rw [hx] at hlt
  obtain ⟨y, hy⟩ : ∃ y : Nat, c.toNat = y := ⟨_, rfl⟩
  rw [hy] at hc
  have c0 : w.cell? ⟨g, off, none⟩ = some (.int .u8 x) := by have := hcell 0 (by (try simp); (try omega)); first | (simp [*]; done) | simpa [*] using this
  have d0 : ∀ o, (w.alloc o).cell? ⟨g, off, none⟩ = some (.int .u8 x) := fun o => ((Kp.refl (fun _ => False) w).alloc o).cell c0 (fun h => h)
  have e0 : ∀ o1 o2, ((w.alloc o1).alloc o2).cell? ⟨g, off, none⟩ = some (.int .u8 x) := fun o1 o2 => (((Kp.refl (fun _ => False) w).alloc o1).alloc o2).cell c0 (fun h => h)
  have c1 : w.cell? ⟨g, off + 1, none⟩ = some (.int .u8 y) := by have := hcell 1 (by (try simp); (try omega)); first | (simp [*]; done) | simpa [*] using this
  have d1 : ∀ o, (w.alloc o).cell? ⟨g, off + 1, none⟩ = some (.int .u8 y) := fun o => ((Kp.refl (fun _ => False) w).alloc o).cell c1 (fun h => h)
  have e1 : ∀ o1 o2, ((w.alloc o1).alloc o2).cell? ⟨g, off + 1, none⟩ = some (.int .u8 y) := fun o1 o2 => (((Kp.refl (fun _ => False) w).alloc o1).alloc o2).cell c1 (fun h => h)
  have hm : decide (0 < bits .and .u8 (x : Int) 32) = m := by rw [u8_bit5 x hlt]; exact hm'
  have HK : Hid (kindB (x / 64) (x % 32) m = true) := Lib.hid (by simpa [topB, hx, hm'] using htop)
  have KK : Hid (Kp (fun _ => False) w ((w.alloc (.cells #[.int .i64 0, .int .i64 0, .bool false, .int .i64 0] 24)).alloc (.cells #[.int .i64 (↑x / 64), .int .i64 (↑x % 32), .bool m, .int .i64 0] 24)).drew) := Lib.hid ((((Kp.refl _ _).alloc _).alloc _).drew)
  have hy2 := c.toNat_lt
  rw [hy] at hy2
  have hq : ¬ y < 128 := by omega
  have HR : Hid (rdV (b :: c :: u) = .tuple #[hdV hd0, .int .i64 1, .int .i64 13]) := Lib.hid (by simp [rdV, rd, htop, hy, hc])
  clear hcell hr hv hm' hx htop
  rw [List.length_cons, List.length_cons] at *
  generalize u.length = n at *
  clear hy
  subst hc
  go_enter Tryd.func14, Tryd.ntmps14
  go_wp2_with fail
  go_region
  go_wp2_with fail
  refine (kind_any _ _ _ _ (htab.kp KK.out)).mono ?_
  rintro e w2 ⟨rfl, rfl⟩
  rw [if_pos HK.out]
  go_wp2_with fail
  refine bodyPost_ret (v := .tuple #[hdV hd0, .int .i64 1, .int .i64 13]) (by simp [results, Tryd.results14, go_sem, hdV, hd0]) rfl ⟨by rw [HR.out], KK.out⟩

set_option maxRecDepth 100000 in
set_option maxHeartbeats 1600000 in
theorem read_132 (w : World) (ok : Nat → Prop) (b c : UInt8) (u : List UInt8) (hc : 131 < c.toNat) (v : Value) (hv : BR w ok v (b :: c :: u)) (htab : Tab w) (hl : (b :: c :: u).length ≤ 140737488355328) (htop : topB b = true) :
    Calls Tryd.prog 14 #[v] w fun e w' => e = .returned (rdV (b :: c :: u)) ∧ Kp (fun _ => False) w w' := by
  obtain ⟨A, cp, rfl, hlc, hr⟩ := id hv
  obtain ⟨g, off, rfl, hok, -⟩ := hr.byte (k := 0) (by simp)
  have hcell : ∀ k (hk : k < (b :: c :: u).length), w.cell? ⟨g, off + k, none⟩ = some (.int .u8 ((b :: c :: u)[k].toNat : Int)) := by
    intro k hk
    obtain ⟨g', off', e', _, h⟩ := hr.byte hk
    simp only [Option.some.injEq, Addr.mk.injEq, and_true] at e'
    obtain ⟨rfl, rfl⟩ := e'
    exact h
  obtain ⟨x, hx⟩ : ∃ x : Nat, b.toNat = x := ⟨_, rfl⟩
  obtain ⟨m, hm'⟩ : ∃ m, (x / 32 % 2 == 1) = m := ⟨_, rfl⟩
  have hlt := b.toNat_lt
  rw [hx] at hlt
  obtain ⟨y, hy⟩ : ∃ y : Nat, c.toNat = y := ⟨_, rfl⟩
  rw [hy] at hc
  have c0 : w.cell? ⟨g, off, none⟩ = some (.int .u8 x) := by have := hcell 0 (by (try simp); (try omega)); first | (simp [*]; done) | simpa [*] using this
  have d0 : ∀ o, (w.alloc o).cell? ⟨g, off, none⟩ = some (.int .u8 x) := fun o => ((Kp.refl (fun _ => False) w).alloc o).cell c0 (fun h => h)
  have e0 : ∀ o1 o2, ((w.alloc o1).alloc o2).cell? ⟨g, off, none⟩ = some (.int .u8 x) := fun o1 o2 => (((Kp.refl (fun _ => False) w).alloc o1).alloc o2).cell c0 (fun h => h)
  have c1 : w.cell? ⟨g, off + 1, none⟩ = some (.int .u8 y) := by have := hcell 1 (by (try simp); (try omega)); first | (simp [*]; done) | simpa [*] using this
  have d1 : ∀ o, (w.alloc o).cell? ⟨g, off + 1, none⟩ = some (.int .u8 y) := fun o => ((Kp.refl (fun _ => False) w).alloc o).cell c1 (fun h => h)
  have e1 : ∀ o1 o2, ((w.alloc o1).alloc o2).cell? ⟨g, off + 1, none⟩ = some (.int .u8 y) := fun o1 o2 => (((Kp.refl (fun _ => False) w).alloc o1).alloc o2).cell c1 (fun h => h)
  have hm : decide (0 < bits .and .u8 (x : Int) 32) = m := by rw [u8_bit5 x hlt]; exact hm'
  have HK : Hid (kindB (x / 64) (x % 32) m = true) := Lib.hid (by simpa [topB, hx, hm'] using htop)
  have KK : Hid (Kp (fun _ => False) w ((w.alloc (.cells #[.int .i64 0, .int .i64 0, .bool false, .int .i64 0] 24)).alloc (.cells #[.int .i64 (↑x / 64), .int .i64 (↑x % 32), .bool m, .int .i64 0] 24)).drew) := Lib.hid ((((Kp.refl _ _).alloc _).alloc _).drew)
  have hy2 := c.toNat_lt
  rw [hy] at hy2
  have hq : ¬ y < 128 := by omega
  have HR : Hid (rdV (b :: c :: u) = .tuple #[hdV hd0, .int .i64 1, .int .i64 13]) := Lib.hid (by simp [rdV, rd, htop, hy, hc, hq])
  clear hcell hr hv hm' hx htop
  rw [List.length_cons, List.length_cons] at *
  generalize u.length = n at *
  clear hy
  have hq2 : ((y : Int) == 128) = false := by simp; omega
  go_enter Tryd.func14, Tryd.ntmps14
  go_wp2_with fail
  go_region
  go_wp2_with fail
  refine (kind_any _ _ _ _ (htab.kp KK.out)).mono ?_
  rintro e w2 ⟨rfl, rfl⟩
  rw [if_pos HK.out]
  go_wp2_with fail
  refine bodyPost_ret (v := .tuple #[hdV hd0, .int .i64 1, .int .i64 13]) (by simp [results, Tryd.results14, go_sem, hdV, hd0]) rfl ⟨by rw [HR.out], KK.out⟩

set_option maxRecDepth 100000 in
set_option maxHeartbeats 1600000 in
theorem read_short1 (w : World) (ok : Nat → Prop) (b c : UInt8) (u : List UInt8) (hc : c.toNat = 129) (hu : u.length < 1) (v : Value) (hv : BR w ok v (b :: c :: u)) (htab : Tab w) (_hl : (b :: c :: u).length ≤ 140737488355328) (htop : topB b = true) :
    Calls Tryd.prog 14 #[v] w fun e w' => e = .returned (rdV (b :: c :: u)) ∧ Kp (fun _ => False) w w' := by
  obtain ⟨A, cp, rfl, hlc, hr⟩ := id hv
  obtain ⟨g, off, rfl, hok, -⟩ := hr.byte (k := 0) (by simp)
  have hcell : ∀ k (hk : k < (b :: c :: u).length), w.cell? ⟨g, off + k, none⟩ = some (.int .u8 ((b :: c :: u)[k].toNat : Int)) := by
    intro k hk
    obtain ⟨g', off', e', _, h⟩ := hr.byte hk
    simp only [Option.some.injEq, Addr.mk.injEq, and_true] at e'
    obtain ⟨rfl, rfl⟩ := e'
    exact h
  obtain ⟨x, hx⟩ : ∃ x : Nat, b.toNat = x := ⟨_, rfl⟩
  obtain ⟨m, hm'⟩ : ∃ m, (x / 32 % 2 == 1) = m := ⟨_, rfl⟩
  have hlt := b.toNat_lt
  rw [hx] at hlt
  have c0 : w.cell? ⟨g, off, none⟩ = some (.int .u8 x) := by have := hcell 0 (by (try simp); (try omega)); first | (simp [*]; done) | simpa [*] using this
  have d0 : ∀ o, (w.alloc o).cell? ⟨g, off, none⟩ = some (.int .u8 x) := fun o => ((Kp.refl (fun _ => False) w).alloc o).cell c0 (fun h => h)
  have e0 : ∀ o1 o2, ((w.alloc o1).alloc o2).cell? ⟨g, off, none⟩ = some (.int .u8 x) := fun o1 o2 => (((Kp.refl (fun _ => False) w).alloc o1).alloc o2).cell c0 (fun h => h)
  have c1 : w.cell? ⟨g, off + 1, none⟩ = some (.int .u8 129) := by have := hcell 1 (by (try simp); (try omega)); first | (simp [*]; done) | simpa [*] using this
  have d1 : ∀ o, (w.alloc o).cell? ⟨g, off + 1, none⟩ = some (.int .u8 129) := fun o => ((Kp.refl (fun _ => False) w).alloc o).cell c1 (fun h => h)
  have e1 : ∀ o1 o2, ((w.alloc o1).alloc o2).cell? ⟨g, off + 1, none⟩ = some (.int .u8 129) := fun o1 o2 => (((Kp.refl (fun _ => False) w).alloc o1).alloc o2).cell c1 (fun h => h)
  have hm : decide (0 < bits .and .u8 (x : Int) 32) = m := by rw [u8_bit5 x hlt]; exact hm'
  have HK : Hid (kindB (x / 64) (x % 32) m = true) := Lib.hid (by simpa [topB, hx, hm'] using htop)
  have KK : Hid (Kp (fun _ => False) w ((w.alloc (.cells #[.int .i64 0, .int .i64 0, .bool false, .int .i64 0] 24)).alloc (.cells #[.int .i64 (↑x / 64), .int .i64 (↑x % 32), .bool m, .int .i64 0] 24)).drew) := Lib.hid ((((Kp.refl _ _).alloc _).alloc _).drew)
  have HR : Hid (rdV (b :: c :: u) = .tuple #[hdV hd0, .int .i64 ((u.length : Int) + 1 + 1), .int .i64 4]) := Lib.hid (by simp [rdV, rd, htop, hc, hu]; omega)
  clear hcell hr hv hm' hx htop
  rw [List.length_cons, List.length_cons] at *
  generalize u.length = n at *
  have hmask : bits .and .u8 129 127 = 1 := by decide
  have hs : (n : Int) + 1 + 1 < 3 := by omega
  clear hc
  go_enter Tryd.func14, Tryd.ntmps14
  go_wp2_with fail
  go_region
  go_wp2_with fail
  refine (kind_any _ _ _ _ (htab.kp KK.out)).mono ?_
  rintro e w2 ⟨rfl, rfl⟩
  rw [if_pos HK.out]
  go_wp2_with fail
  refine bodyPost_ret (v := .tuple #[hdV hd0, .int .i64 ((n : Int) + 1 + 1), .int .i64 4]) (by simp [results, Tryd.results14, go_sem, hdV, hd0]) rfl ⟨by rw [HR.out], KK.out⟩

set_option maxRecDepth 100000 in
set_option maxHeartbeats 1600000 in
theorem read_short2 (w : World) (ok : Nat → Prop) (b c : UInt8) (u : List UInt8) (hc : c.toNat = 130) (hu : u.length < 2) (v : Value) (hv : BR w ok v (b :: c :: u)) (htab : Tab w) (_hl : (b :: c :: u).length ≤ 140737488355328) (htop : topB b = true) :
    Calls Tryd.prog 14 #[v] w fun e w' => e = .returned (rdV (b :: c :: u)) ∧ Kp (fun _ => False) w w' := by
  obtain ⟨A, cp, rfl, hlc, hr⟩ := id hv
  obtain ⟨g, off, rfl, hok, -⟩ := hr.byte (k := 0) (by simp)
  have hcell : ∀ k (hk : k < (b :: c :: u).length), w.cell? ⟨g, off + k, none⟩ = some (.int .u8 ((b :: c :: u)[k].toNat : Int)) := by
    intro k hk
    obtain ⟨g', off', e', _, h⟩ := hr.byte hk
    simp only [Option.some.injEq, Addr.mk.injEq, and_true] at e'
    obtain ⟨rfl, rfl⟩ := e'
    exact h
  obtain ⟨x, hx⟩ : ∃ x : Nat, b.toNat = x := ⟨_, rfl⟩
  obtain ⟨m, hm'⟩ : ∃ m, (x / 32 % 2 == 1) = m := ⟨_, rfl⟩
  have hlt := b.toNat_lt
  rw [hx] at hlt
  have c0 : w.cell? ⟨g, off, none⟩ = some (.int .u8 x) := by have := hcell 0 (by (try simp); (try omega)); first | (simp [*]; done) | simpa [*] using this
  have d0 : ∀ o, (w.alloc o).cell? ⟨g, off, none⟩ = some (.int .u8 x) := fun o => ((Kp.refl (fun _ => False) w).alloc o).cell c0 (fun h => h)
  have e0 : ∀ o1 o2, ((w.alloc o1).alloc o2).cell? ⟨g, off, none⟩ = some (.int .u8 x) := fun o1 o2 => (((Kp.refl (fun _ => False) w).alloc o1).alloc o2).cell c0 (fun h => h)
  have c1 : w.cell? ⟨g, off + 1, none⟩ = some (.int .u8 130) := by have := hcell 1 (by (try simp); (try omega)); first | (simp [*]; done) | simpa [*] using this
  have d1 : ∀ o, (w.alloc o).cell? ⟨g, off + 1, none⟩ = some (.int .u8 130) := fun o => ((Kp.refl (fun _ => False) w).alloc o).cell c1 (fun h => h)
  have e1 : ∀ o1 o2, ((w.alloc o1).alloc o2).cell? ⟨g, off + 1, none⟩ = some (.int .u8 130) := fun o1 o2 => (((Kp.refl (fun _ => False) w).alloc o1).alloc o2).cell c1 (fun h => h)
  have hm : decide (0 < bits .and .u8 (x : Int) 32) = m := by rw [u8_bit5 x hlt]; exact hm'
  have HK : Hid (kindB (x / 64) (x % 32) m = true) := Lib.hid (by simpa [topB, hx, hm'] using htop)
  have KK : Hid (Kp (fun _ => False) w ((w.alloc (.cells #[.int .i64 0, .int .i64 0, .bool false, .int .i64 0] 24)).alloc (.cells #[.int .i64 (↑x / 64), .int .i64 (↑x % 32), .bool m, .int .i64 0] 24)).drew) := Lib.hid ((((Kp.refl _ _).alloc _).alloc _).drew)
  have HR : Hid (rdV (b :: c :: u) = .tuple #[hdV hd0, .int .i64 ((u.length : Int) + 1 + 1), .int .i64 4]) := Lib.hid (by simp [rdV, rd, htop, hc, hu]; omega)
  clear hcell hr hv hm' hx htop
  rw [List.length_cons, List.length_cons] at *
  generalize u.length = n at *
  have hmask : bits .and .u8 130 127 = 2 := by decide
  have hs : (n : Int) + 1 + 1 < 4 := by omega
  clear hc
  go_enter Tryd.func14, Tryd.ntmps14
  go_wp2_with fail
  go_region
  go_wp2_with fail
  refine (kind_any _ _ _ _ (htab.kp KK.out)).mono ?_
  rintro e w2 ⟨rfl, rfl⟩
  rw [if_pos HK.out]
  go_wp2_with fail
  refine bodyPost_ret (v := .tuple #[hdV hd0, .int .i64 ((n : Int) + 1 + 1), .int .i64 4]) (by simp [results, Tryd.results14, go_sem, hdV, hd0]) rfl ⟨by rw [HR.out], KK.out⟩

set_option maxRecDepth 100000 in
set_option maxHeartbeats 1600000 in
theorem read_short3 (w : World) (ok : Nat → Prop) (b c : UInt8) (u : List UInt8) (hc : c.toNat = 131) (hu : u.length < 3) (v : Value) (hv : BR w ok v (b :: c :: u)) (htab : Tab w) (_hl : (b :: c :: u).length ≤ 140737488355328) (htop : topB b = true) :
    Calls Tryd.prog 14 #[v] w fun e w' => e = .returned (rdV (b :: c :: u)) ∧ Kp (fun _ => False) w w' := by
  obtain ⟨A, cp, rfl, hlc, hr⟩ := id hv
  obtain ⟨g, off, rfl, hok, -⟩ := hr.byte (k := 0) (by simp)
  have hcell : ∀ k (hk : k < (b :: c :: u).length), w.cell? ⟨g, off + k, none⟩ = some (.int .u8 ((b :: c :: u)[k].toNat : Int)) := by
    intro k hk
    obtain ⟨g', off', e', _, h⟩ := hr.byte hk
    simp only [Option.some.injEq, Addr.mk.injEq, and_true] at e'
    obtain ⟨rfl, rfl⟩ := e'
    exact h
  obtain ⟨x, hx⟩ : ∃ x : Nat, b.toNat = x := ⟨_, rfl⟩
  obtain ⟨m, hm'⟩ : ∃ m, (x / 32 % 2 == 1) = m := ⟨_, rfl⟩
  have hlt := b.toNat_lt
  rw [hx] at hlt
  have c0 : w.cell? ⟨g, off, none⟩ = some (.int .u8 x) := by have := hcell 0 (by (try simp); (try omega)); first | (simp [*]; done) | simpa [*] using this
  have d0 : ∀ o, (w.alloc o).cell? ⟨g, off, none⟩ = some (.int .u8 x) := fun o => ((Kp.refl (fun _ => False) w).alloc o).cell c0 (fun h => h)
  have e0 : ∀ o1 o2, ((w.alloc o1).alloc o2).cell? ⟨g, off, none⟩ = some (.int .u8 x) := fun o1 o2 => (((Kp.refl (fun _ => False) w).alloc o1).alloc o2).cell c0 (fun h => h)
  have c1 : w.cell? ⟨g, off + 1, none⟩ = some (.int .u8 131) := by have := hcell 1 (by (try simp); (try omega)); first | (simp [*]; done) | simpa [*] using this
  have d1 : ∀ o, (w.alloc o).cell? ⟨g, off + 1, none⟩ = some (.int .u8 131) := fun o => ((Kp.refl (fun _ => False) w).alloc o).cell c1 (fun h => h)
  have e1 : ∀ o1 o2, ((w.alloc o1).alloc o2).cell? ⟨g, off + 1, none⟩ = some (.int .u8 131) := fun o1 o2 => (((Kp.refl (fun _ => False) w).alloc o1).alloc o2).cell c1 (fun h => h)
  have hm : decide (0 < bits .and .u8 (x : Int) 32) = m := by rw [u8_bit5 x hlt]; exact hm'
  have HK : Hid (kindB (x / 64) (x % 32) m = true) := Lib.hid (by simpa [topB, hx, hm'] using htop)
  have KK : Hid (Kp (fun _ => False) w ((w.alloc (.cells #[.int .i64 0, .int .i64 0, .bool false, .int .i64 0] 24)).alloc (.cells #[.int .i64 (↑x / 64), .int .i64 (↑x % 32), .bool m, .int .i64 0] 24)).drew) := Lib.hid ((((Kp.refl _ _).alloc _).alloc _).drew)
  have HR : Hid (rdV (b :: c :: u) = .tuple #[hdV hd0, .int .i64 ((u.length : Int) + 1 + 1), .int .i64 4]) := Lib.hid (by simp [rdV, rd, htop, hc, hu]; omega)
  clear hcell hr hv hm' hx htop
  rw [List.length_cons, List.length_cons] at *
  generalize u.length = n at *
  have hmask : bits .and .u8 131 127 = 3 := by decide
  have hs : (n : Int) + 1 + 1 < 5 := by omega
  clear hc
  go_enter Tryd.func14, Tryd.ntmps14
  go_wp2_with fail
  go_region
  go_wp2_with fail
  refine (kind_any _ _ _ _ (htab.kp KK.out)).mono ?_
  rintro e w2 ⟨rfl, rfl⟩
  rw [if_pos HK.out]
  go_wp2_with fail
  refine bodyPost_ret (v := .tuple #[hdV hd0, .int .i64 ((n : Int) + 1 + 1), .int .i64 4]) (by simp [results, Tryd.results14, go_sem, hdV, hd0]) rfl ⟨by rw [HR.out], KK.out⟩


end Go.Proofs.YtjdfgjlbmbiihaaDoor
