/-
  The document's Read of layer 9: the head at the beginning of bytes.
-/
import Derived.Test.YtjdfgjlbmbiihaaDoorDr1
import Derived.Test.YtjdfgjlbmbiihaaDoorDrp
namespace Go.Proofs.YtjdfgjlbmbiihaaDoor
open Go.RowKit

/-- The first byte is made again. -/
theorem hb_self {b : UInt8} (_h : topB b = true) : hb ((b.toNat : Int) / 64) ((b.toNat : Int) % 32) (b.toNat / 32 % 2 == 1) = b := by
  have hlt := b.toNat_lt
  apply UInt8.toNat_inj.1
  rw [hb, UInt8.toNat_ofNat']
  have e : (if (b.toNat / 32 % 2 == 1) = true then (32 : Int) else 0) = (b.toNat / 32 % 2 * 32 : Nat) := by
    rcases Nat.mod_two_eq_zero_or_one (b.toNat / 32) with h | h
    · rw [h]; rfl
    · rw [h]; rfl
  rw [e]
  omega
theorem cells4 {w : World} {g : Nat} {t : TypeId} {a b c d : Value} (h : Blk w g t #[a, b, c, d]) : w.cell? ⟨g, 0, none⟩ = some a ∧ w.cell? ⟨g, 1, none⟩ = some b ∧ w.cell? ⟨g, 2, none⟩ = some c ∧ w.cell? ⟨g, 3, none⟩ = some d :=
  ⟨h.cell 0, h.cell 1, h.cell 2, h.cell 3⟩
theorem pt_top {b : UInt8} (h : topB b = true) (L : Nat) (hL : L ≤ 16777215) : pt ((b.toNat : Int) / 64) ((b.toNat : Int) % 32) (b.toNat / 32 % 2 == 1) L = (b :: lenB L, 0) := by
  rw [pt, if_pos (show kindB ((b.toNat : Int) / 64) ((b.toNat : Int) % 32) (b.toNat / 32 % 2 == 1) = true from h), if_neg (by omega), hb_self h, Int.toNat_natCast]

set_option maxRecDepth 100000 in
theorem rread_nil (w : World) (ok : Nat → Prop) (v : Value) (hv : BR w ok v []) : Calls Tryd.prog 15 #[v] w fun e w' => e = .returned (rdV []) ∧ Kp (fun _ => False) w w' := by
  obtain ⟨A, cp, rfl, hlc, hr⟩ := id hv
  have hkk : Kp (fun _ => False) w (w.alloc (.cells #[.int .i64 0, .int .i64 0, .bool false, .int .i64 0] 28)) := (Kp.refl _ _).alloc _
  have HKK := Lib.hid hkk
  clear hkk
  go_enter Tryd.func15, Tryd.ntmps15
  go_wp2_with fail
  refine bodyPost_ret (v := .tuple #[hdV hd0, .int .i64 0, .int .i64 4]) (by simp [results, Tryd.results15, go_sem, hdV, hd0]) rfl ⟨rfl, HKK.out⟩

set_option maxRecDepth 100000 in
set_option maxHeartbeats 1600000 in
theorem rread_bad (w : World) (ok : Nat → Prop) (b : UInt8) (t : List UInt8) (v : Value) (hv : BR w ok v (b :: t)) (hl : (b :: t).length ≤ 140737488351232) (htop : topB b = false) :
    Calls Tryd.prog 15 #[v] w fun e w' => e = .returned (rdV (b :: t)) ∧ Kp (fun _ => False) w w' := by
  obtain ⟨A, cp, rfl, hlc, hr⟩ := id hv
  obtain ⟨g, off, rfl, hok, -⟩ := hr.byte (k := 0) (by simp)
  have hcell : ∀ k (hk : k < (b :: t).length), w.cell? ⟨g, off + k, none⟩ = some (.int .u8 ((b :: t)[k].toNat : Int)) := by
    intro k hk
    obtain ⟨g', off', e', _, h⟩ := hr.byte hk
    simp only [Option.some.injEq, Addr.mk.injEq, and_true] at e'
    obtain ⟨rfl, rfl⟩ := e'
    exact h
  obtain ⟨x, hx⟩ : ∃ x : Nat, b.toNat = x := ⟨_, rfl⟩
  obtain ⟨m, hm'⟩ : ∃ m, (x / 32 % 2 == 1) = m := ⟨_, rfl⟩
  have hlt := b.toNat_lt
  rw [hx] at hlt
  have c0 : w.cell? ⟨g, off, none⟩ = some (.int .u8 x) := by have := hcell 0 (by (try simp); (try omega)); first | (simp [*]; done) | simpa [*] using this
  have d0 : ∀ o, (w.alloc o).cell? ⟨g, off, none⟩ = some (.int .u8 x) := fun o => ((Kp.refl (fun _ => False) w).alloc o).cell c0 (fun h => h)
  have e0 : ∀ o1 o2, ((w.alloc o1).alloc o2).cell? ⟨g, off, none⟩ = some (.int .u8 x) := fun o1 o2 => (((Kp.refl (fun _ => False) w).alloc o1).alloc o2).cell c0 (fun h => h)
  have hm : ((x : Int) / 32 % 2 == 1) = m := by rw [← hm']; rcases Nat.mod_two_eq_zero_or_one (x / 32) with h | h <;> simp [h] <;> omega
  have HK : Hid (kindB (x / 64) (x % 32) m = false) := Lib.hid (by simpa [topB, hx, hm'] using htop)
  have KK : Hid (Kp (fun _ => False) w ((w.alloc (.cells #[.int .i64 0, .int .i64 0, .bool false, .int .i64 0] 28)).alloc (.cells #[.int .i64 (↑x / 64), .int .i64 (↑x % 32), .bool m, .int .i64 0] 28)).drew) := Lib.hid ((((Kp.refl _ _).alloc _).alloc _).drew)
  have HR : Hid (rdV (b :: t) = .tuple #[hdV hd0, .int .i64 0, .int .i64 13]) := Lib.hid (by rw [rdV, rd_bad htop])
  clear hcell hr hv hm' htop
  rw [List.length_cons] at *
  generalize t.length = n at *
  go_enter Tryd.func15, Tryd.ntmps15
  go_wp2_with fail
  go_region
  go_wp2_with fail
  refine (rkind_any _ _ _ _).mono ?_
  rintro e w2 ⟨rfl, rfl⟩
  rw [HK.out]
  go_wp2_with fail
  refine bodyPost_ret (v := .tuple #[hdV hd0, .int .i64 0, .int .i64 13]) (by simp [results, Tryd.results15, go_sem, hdV, hd0]) rfl ⟨by rw [HR.out], KK.out⟩

set_option maxRecDepth 100000 in
set_option maxHeartbeats 1600000 in
theorem rread_one (w : World) (ok : Nat → Prop) (b : UInt8) (v : Value) (hv : BR w ok v ([b])) (_hl : ([b]).length ≤ 140737488351232) (htop : topB b = true) :
    Calls Tryd.prog 15 #[v] w fun e w' => e = .returned (rdV ([b])) ∧ Kp (fun _ => False) w w' := by
  obtain ⟨A, cp, rfl, hlc, hr⟩ := id hv
  obtain ⟨g, off, rfl, hok, -⟩ := hr.byte (k := 0) (by simp)
  have hcell : ∀ k (hk : k < ([b]).length), w.cell? ⟨g, off + k, none⟩ = some (.int .u8 (([b])[k].toNat : Int)) := by
    intro k hk
    obtain ⟨g', off', e', _, h⟩ := hr.byte hk
    simp only [Option.some.injEq, Addr.mk.injEq, and_true] at e'
    obtain ⟨rfl, rfl⟩ := e'
    exact h
  obtain ⟨x, hx⟩ : ∃ x : Nat, b.toNat = x := ⟨_, rfl⟩
  obtain ⟨m, hm'⟩ : ∃ m, (x / 32 % 2 == 1) = m := ⟨_, rfl⟩
  have hlt := b.toNat_lt
  rw [hx] at hlt
  have c0 : w.cell? ⟨g, off, none⟩ = some (.int .u8 x) := by have := hcell 0 (by (try simp); (try omega)); first | (simp [*]; done) | simpa [*] using this
  have d0 : ∀ o, (w.alloc o).cell? ⟨g, off, none⟩ = some (.int .u8 x) := fun o => ((Kp.refl (fun _ => False) w).alloc o).cell c0 (fun h => h)
  have e0 : ∀ o1 o2, ((w.alloc o1).alloc o2).cell? ⟨g, off, none⟩ = some (.int .u8 x) := fun o1 o2 => (((Kp.refl (fun _ => False) w).alloc o1).alloc o2).cell c0 (fun h => h)
  have hm : ((x : Int) / 32 % 2 == 1) = m := by rw [← hm']; rcases Nat.mod_two_eq_zero_or_one (x / 32) with h | h <;> simp [h] <;> omega
  have HK : Hid (kindB (x / 64) (x % 32) m = true) := Lib.hid (by simpa [topB, hx, hm'] using htop)
  have KK : Hid (Kp (fun _ => False) w ((w.alloc (.cells #[.int .i64 0, .int .i64 0, .bool false, .int .i64 0] 28)).alloc (.cells #[.int .i64 (↑x / 64), .int .i64 (↑x % 32), .bool m, .int .i64 0] 28)).drew) := Lib.hid ((((Kp.refl _ _).alloc _).alloc _).drew)
  have HR : Hid (rdV [b] = .tuple #[hdV hd0, .int .i64 1, .int .i64 4]) := Lib.hid (by simp [rdV, rd, htop])
  clear hcell hr hv hm' htop
  rw [List.length_singleton] at *
  go_enter Tryd.func15, Tryd.ntmps15
  go_wp2_with fail
  go_region
  go_wp2_with fail
  refine (rkind_any _ _ _ _).mono ?_
  rintro e w2 ⟨rfl, rfl⟩
  rw [HK.out]
  go_wp2_with fail
  refine bodyPost_ret (v := .tuple #[hdV hd0, .int .i64 1, .int .i64 4]) (by simp [results, Tryd.results15, go_sem, hdV, hd0]) rfl ⟨by rw [HR.out], KK.out⟩

set_option maxRecDepth 100000 in
set_option maxHeartbeats 1600000 in
theorem rread_128 (w : World) (ok : Nat → Prop) (b c : UInt8) (u : List UInt8) (hc : c.toNat = 128) (v : Value) (hv : BR w ok v (b :: c :: u)) (hl : (b :: c :: u).length ≤ 140737488351232) (htop : topB b = true) :
    Calls Tryd.prog 15 #[v] w fun e w' => e = .returned (rdV (b :: c :: u)) ∧ Kp (fun _ => False) w w' := by
  obtain ⟨A, cp, rfl, hlc, hr⟩ := id hv
  obtain ⟨g, off, rfl, hok, -⟩ := hr.byte (k := 0) (by simp)
  have hcell : ∀ k (hk : k < (b :: c :: u).length), w.cell? ⟨g, off + k, none⟩ = some (.int .u8 ((b :: c :: u)[k].toNat : Int)) := by
    intro k hk
    obtain ⟨g', off', e', _, h⟩ := hr.byte hk
    simp only [Option.some.injEq, Addr.mk.injEq, and_true] at e'
    obtain ⟨rfl, rfl⟩ := e'
    exact h
  obtain ⟨x, hx⟩ : ∃ x : Nat, b.toNat = x := ⟨_, rfl⟩
  obtain ⟨m, hm'⟩ : ∃ m, (x / 32 % 2 == 1) = m := ⟨_, rfl⟩
  have hlt := b.toNat_lt
  rw [hx] at hlt
  obtain ⟨y, hy⟩ : ∃ y : Nat, c.toNat = y := ⟨_, rfl⟩
  rw [hy] at hc
  have c0 : w.cell? ⟨g, off, none⟩ = some (.int .u8 x) := by have := hcell 0 (by (try simp); (try omega)); first | (simp [*]; done) | simpa [*] using this
  have d0 : ∀ o, (w.alloc o).cell? ⟨g, off, none⟩ = some (.int .u8 x) := fun o => ((Kp.refl (fun _ => False) w).alloc o).cell c0 (fun h => h)
  have e0 : ∀ o1 o2, ((w.alloc o1).alloc o2).cell? ⟨g, off, none⟩ = some (.int .u8 x) := fun o1 o2 => (((Kp.refl (fun _ => False) w).alloc o1).alloc o2).cell c0 (fun h => h)
  have c1 : w.cell? ⟨g, off + 1, none⟩ = some (.int .u8 y) := by have := hcell 1 (by (try simp); (try omega)); first | (simp [*]; done) | simpa [*] using this
  have d1 : ∀ o, (w.alloc o).cell? ⟨g, off + 1, none⟩ = some (.int .u8 y) := fun o => ((Kp.refl (fun _ => False) w).alloc o).cell c1 (fun h => h)
  have e1 : ∀ o1 o2, ((w.alloc o1).alloc o2).cell? ⟨g, off + 1, none⟩ = some (.int .u8 y) := fun o1 o2 => (((Kp.refl (fun _ => False) w).alloc o1).alloc o2).cell c1 (fun h => h)
  have hm : ((x : Int) / 32 % 2 == 1) = m := by rw [← hm']; rcases Nat.mod_two_eq_zero_or_one (x / 32) with h | h <;> simp [h] <;> omega
  have HK : Hid (kindB (x / 64) (x % 32) m = true) := Lib.hid (by simpa [topB, hx, hm'] using htop)
  have KK : Hid (Kp (fun _ => False) w ((w.alloc (.cells #[.int .i64 0, .int .i64 0, .bool false, .int .i64 0] 28)).alloc (.cells #[.int .i64 (↑x / 64), .int .i64 (↑x % 32), .bool m, .int .i64 0] 28)).drew) := Lib.hid ((((Kp.refl _ _).alloc _).alloc _).drew)
  have hy2 := c.toNat_lt
  rw [hy] at hy2
  have hq : ¬ y < 128 := by omega
  have HR : Hid (rdV (b :: c :: u) = .tuple #[hdV hd0, .int .i64 1, .int .i64 13]) := Lib.hid (by simp [rdV, rd, htop, hy, hc])
  clear hcell hr hv hm' htop
  rw [List.length_cons, List.length_cons] at *
  generalize u.length = n at *
  clear hy
  subst hc
  go_enter Tryd.func15, Tryd.ntmps15
  go_wp2_with fail
  go_region
  go_wp2_with fail
  refine (rkind_any _ _ _ _).mono ?_
  rintro e w2 ⟨rfl, rfl⟩
  rw [HK.out]
  go_wp2_with fail
  refine bodyPost_ret (v := .tuple #[hdV hd0, .int .i64 1, .int .i64 13]) (by simp [results, Tryd.results15, go_sem, hdV, hd0]) rfl ⟨by rw [HR.out], KK.out⟩

set_option maxRecDepth 100000 in
set_option maxHeartbeats 1600000 in
theorem rread_132 (w : World) (ok : Nat → Prop) (b c : UInt8) (u : List UInt8) (hc : 131 < c.toNat) (v : Value) (hv : BR w ok v (b :: c :: u)) (hl : (b :: c :: u).length ≤ 140737488351232) (htop : topB b = true) :
    Calls Tryd.prog 15 #[v] w fun e w' => e = .returned (rdV (b :: c :: u)) ∧ Kp (fun _ => False) w w' := by
  obtain ⟨A, cp, rfl, hlc, hr⟩ := id hv
  obtain ⟨g, off, rfl, hok, -⟩ := hr.byte (k := 0) (by simp)
  have hcell : ∀ k (hk : k < (b :: c :: u).length), w.cell? ⟨g, off + k, none⟩ = some (.int .u8 ((b :: c :: u)[k].toNat : Int)) := by
    intro k hk
    obtain ⟨g', off', e', _, h⟩ := hr.byte hk
    simp only [Option.some.injEq, Addr.mk.injEq, and_true] at e'
    obtain ⟨rfl, rfl⟩ := e'
    exact h
  obtain ⟨x, hx⟩ : ∃ x : Nat, b.toNat = x := ⟨_, rfl⟩
  obtain ⟨m, hm'⟩ : ∃ m, (x / 32 % 2 == 1) = m := ⟨_, rfl⟩
  have hlt := b.toNat_lt
  rw [hx] at hlt
  obtain ⟨y, hy⟩ : ∃ y : Nat, c.toNat = y := ⟨_, rfl⟩
  rw [hy] at hc
  have c0 : w.cell? ⟨g, off, none⟩ = some (.int .u8 x) := by have := hcell 0 (by (try simp); (try omega)); first | (simp [*]; done) | simpa [*] using this
  have d0 : ∀ o, (w.alloc o).cell? ⟨g, off, none⟩ = some (.int .u8 x) := fun o => ((Kp.refl (fun _ => False) w).alloc o).cell c0 (fun h => h)
  have e0 : ∀ o1 o2, ((w.alloc o1).alloc o2).cell? ⟨g, off, none⟩ = some (.int .u8 x) := fun o1 o2 => (((Kp.refl (fun _ => False) w).alloc o1).alloc o2).cell c0 (fun h => h)
  have c1 : w.cell? ⟨g, off + 1, none⟩ = some (.int .u8 y) := by have := hcell 1 (by (try simp); (try omega)); first | (simp [*]; done) | simpa [*] using this
  have d1 : ∀ o, (w.alloc o).cell? ⟨g, off + 1, none⟩ = some (.int .u8 y) := fun o => ((Kp.refl (fun _ => False) w).alloc o).cell c1 (fun h => h)
  have e1 : ∀ o1 o2, ((w.alloc o1).alloc o2).cell? ⟨g, off + 1, none⟩ = some (.int .u8 y) := fun o1 o2 => (((Kp.refl (fun _ => False) w).alloc o1).alloc o2).cell c1 (fun h => h)
  have hm : ((x : Int) / 32 % 2 == 1) = m := by rw [← hm']; rcases Nat.mod_two_eq_zero_or_one (x / 32) with h | h <;> simp [h] <;> omega
  have HK : Hid (kindB (x / 64) (x % 32) m = true) := Lib.hid (by simpa [topB, hx, hm'] using htop)
  have KK : Hid (Kp (fun _ => False) w ((w.alloc (.cells #[.int .i64 0, .int .i64 0, .bool false, .int .i64 0] 28)).alloc (.cells #[.int .i64 (↑x / 64), .int .i64 (↑x % 32), .bool m, .int .i64 0] 28)).drew) := Lib.hid ((((Kp.refl _ _).alloc _).alloc _).drew)
  have hy2 := c.toNat_lt
  rw [hy] at hy2
  have hq : ¬ y < 128 := by omega
  have HR : Hid (rdV (b :: c :: u) = .tuple #[hdV hd0, .int .i64 1, .int .i64 13]) := Lib.hid (by simp [rdV, rd, htop, hy, hc, hq])
  clear hcell hr hv hm' htop
  rw [List.length_cons, List.length_cons] at *
  generalize u.length = n at *
  clear hy
  have hq2 : ((y : Int) == 128) = false := by simp; omega
  go_enter Tryd.func15, Tryd.ntmps15
  go_wp2_with fail
  go_region
  go_wp2_with fail
  refine (rkind_any _ _ _ _).mono ?_
  rintro e w2 ⟨rfl, rfl⟩
  rw [HK.out]
  go_wp2_with fail
  refine bodyPost_ret (v := .tuple #[hdV hd0, .int .i64 1, .int .i64 13]) (by simp [results, Tryd.results15, go_sem, hdV, hd0]) rfl ⟨by rw [HR.out], KK.out⟩

set_option maxRecDepth 100000 in
set_option maxHeartbeats 1600000 in
theorem rread_short1 (w : World) (ok : Nat → Prop) (b c : UInt8) (u : List UInt8) (hc : c.toNat = 129) (hu : u.length < 1) (v : Value) (hv : BR w ok v (b :: c :: u)) (_hl : (b :: c :: u).length ≤ 140737488351232) (htop : topB b = true) :
    Calls Tryd.prog 15 #[v] w fun e w' => e = .returned (rdV (b :: c :: u)) ∧ Kp (fun _ => False) w w' := by
  obtain ⟨A, cp, rfl, hlc, hr⟩ := id hv
  obtain ⟨g, off, rfl, hok, -⟩ := hr.byte (k := 0) (by simp)
  have hcell : ∀ k (hk : k < (b :: c :: u).length), w.cell? ⟨g, off + k, none⟩ = some (.int .u8 ((b :: c :: u)[k].toNat : Int)) := by
    intro k hk
    obtain ⟨g', off', e', _, h⟩ := hr.byte hk
    simp only [Option.some.injEq, Addr.mk.injEq, and_true] at e'
    obtain ⟨rfl, rfl⟩ := e'
    exact h
  obtain ⟨x, hx⟩ : ∃ x : Nat, b.toNat = x := ⟨_, rfl⟩
  obtain ⟨m, hm'⟩ : ∃ m, (x / 32 % 2 == 1) = m := ⟨_, rfl⟩
  have hlt := b.toNat_lt
  rw [hx] at hlt
  have c0 : w.cell? ⟨g, off, none⟩ = some (.int .u8 x) := by have := hcell 0 (by (try simp); (try omega)); first | (simp [*]; done) | simpa [*] using this
  have d0 : ∀ o, (w.alloc o).cell? ⟨g, off, none⟩ = some (.int .u8 x) := fun o => ((Kp.refl (fun _ => False) w).alloc o).cell c0 (fun h => h)
  have e0 : ∀ o1 o2, ((w.alloc o1).alloc o2).cell? ⟨g, off, none⟩ = some (.int .u8 x) := fun o1 o2 => (((Kp.refl (fun _ => False) w).alloc o1).alloc o2).cell c0 (fun h => h)
  have c1 : w.cell? ⟨g, off + 1, none⟩ = some (.int .u8 129) := by have := hcell 1 (by (try simp); (try omega)); first | (simp [*]; done) | simpa [*] using this
  have d1 : ∀ o, (w.alloc o).cell? ⟨g, off + 1, none⟩ = some (.int .u8 129) := fun o => ((Kp.refl (fun _ => False) w).alloc o).cell c1 (fun h => h)
  have e1 : ∀ o1 o2, ((w.alloc o1).alloc o2).cell? ⟨g, off + 1, none⟩ = some (.int .u8 129) := fun o1 o2 => (((Kp.refl (fun _ => False) w).alloc o1).alloc o2).cell c1 (fun h => h)
  have hm : ((x : Int) / 32 % 2 == 1) = m := by rw [← hm']; rcases Nat.mod_two_eq_zero_or_one (x / 32) with h | h <;> simp [h] <;> omega
  have HK : Hid (kindB (x / 64) (x % 32) m = true) := Lib.hid (by simpa [topB, hx, hm'] using htop)
  have KK : Hid (Kp (fun _ => False) w ((w.alloc (.cells #[.int .i64 0, .int .i64 0, .bool false, .int .i64 0] 28)).alloc (.cells #[.int .i64 (↑x / 64), .int .i64 (↑x % 32), .bool m, .int .i64 0] 28)).drew) := Lib.hid ((((Kp.refl _ _).alloc _).alloc _).drew)
  have HR : Hid (rdV (b :: c :: u) = .tuple #[hdV hd0, .int .i64 ((u.length : Int) + 1 + 1), .int .i64 4]) := Lib.hid (by simp [rdV, rd, htop, hc, hu]; omega)
  clear hcell hr hv hm' htop
  rw [List.length_cons, List.length_cons] at *
  generalize u.length = n at *
  have hs : (n : Int) + 1 + 1 < 3 := by omega
  have KK2 := Lib.hid (fun z : Int => (show Kp (fun _ => False) w ((w.alloc (.cells #[.int .i64 0, .int .i64 0, .bool false, .int .i64 0] 28)).alloc (.cells #[.int .i64 (↑x / 64), .int .i64 (↑x % 32), .bool m, .int .i64 z] 28)).drew from ((((Kp.refl _ _).alloc _).alloc _).drew)))
  clear hc
  go_enter Tryd.func15, Tryd.ntmps15
  go_wp2_with fail
  go_region
  go_wp2_with fail
  refine (rkind_any _ _ _ _).mono ?_
  rintro e w2 ⟨rfl, rfl⟩
  rw [HK.out]
  go_wp2_with fail
  refine bodyPost_ret (v := .tuple #[hdV hd0, .int .i64 ((n : Int) + 1 + 1), .int .i64 4]) (by simp [results, Tryd.results15, go_sem, hdV, hd0]) rfl ⟨by rw [HR.out], KK2.out _⟩

set_option maxRecDepth 100000 in
set_option maxHeartbeats 1600000 in
theorem rread_short2 (w : World) (ok : Nat → Prop) (b c : UInt8) (u : List UInt8) (hc : c.toNat = 130) (hu : u.length < 2) (v : Value) (hv : BR w ok v (b :: c :: u)) (_hl : (b :: c :: u).length ≤ 140737488351232) (htop : topB b = true) :
    Calls Tryd.prog 15 #[v] w fun e w' => e = .returned (rdV (b :: c :: u)) ∧ Kp (fun _ => False) w w' := by
  obtain ⟨A, cp, rfl, hlc, hr⟩ := id hv
  obtain ⟨g, off, rfl, hok, -⟩ := hr.byte (k := 0) (by simp)
  have hcell : ∀ k (hk : k < (b :: c :: u).length), w.cell? ⟨g, off + k, none⟩ = some (.int .u8 ((b :: c :: u)[k].toNat : Int)) := by
    intro k hk
    obtain ⟨g', off', e', _, h⟩ := hr.byte hk
    simp only [Option.some.injEq, Addr.mk.injEq, and_true] at e'
    obtain ⟨rfl, rfl⟩ := e'
    exact h
  obtain ⟨x, hx⟩ : ∃ x : Nat, b.toNat = x := ⟨_, rfl⟩
  obtain ⟨m, hm'⟩ : ∃ m, (x / 32 % 2 == 1) = m := ⟨_, rfl⟩
  have hlt := b.toNat_lt
  rw [hx] at hlt
  have c0 : w.cell? ⟨g, off, none⟩ = some (.int .u8 x) := by have := hcell 0 (by (try simp); (try omega)); first | (simp [*]; done) | simpa [*] using this
  have d0 : ∀ o, (w.alloc o).cell? ⟨g, off, none⟩ = some (.int .u8 x) := fun o => ((Kp.refl (fun _ => False) w).alloc o).cell c0 (fun h => h)
  have e0 : ∀ o1 o2, ((w.alloc o1).alloc o2).cell? ⟨g, off, none⟩ = some (.int .u8 x) := fun o1 o2 => (((Kp.refl (fun _ => False) w).alloc o1).alloc o2).cell c0 (fun h => h)
  have c1 : w.cell? ⟨g, off + 1, none⟩ = some (.int .u8 130) := by have := hcell 1 (by (try simp); (try omega)); first | (simp [*]; done) | simpa [*] using this
  have d1 : ∀ o, (w.alloc o).cell? ⟨g, off + 1, none⟩ = some (.int .u8 130) := fun o => ((Kp.refl (fun _ => False) w).alloc o).cell c1 (fun h => h)
  have e1 : ∀ o1 o2, ((w.alloc o1).alloc o2).cell? ⟨g, off + 1, none⟩ = some (.int .u8 130) := fun o1 o2 => (((Kp.refl (fun _ => False) w).alloc o1).alloc o2).cell c1 (fun h => h)
  have hm : ((x : Int) / 32 % 2 == 1) = m := by rw [← hm']; rcases Nat.mod_two_eq_zero_or_one (x / 32) with h | h <;> simp [h] <;> omega
  have HK : Hid (kindB (x / 64) (x % 32) m = true) := Lib.hid (by simpa [topB, hx, hm'] using htop)
  have KK : Hid (Kp (fun _ => False) w ((w.alloc (.cells #[.int .i64 0, .int .i64 0, .bool false, .int .i64 0] 28)).alloc (.cells #[.int .i64 (↑x / 64), .int .i64 (↑x % 32), .bool m, .int .i64 0] 28)).drew) := Lib.hid ((((Kp.refl _ _).alloc _).alloc _).drew)
  have HR : Hid (rdV (b :: c :: u) = .tuple #[hdV hd0, .int .i64 ((u.length : Int) + 1 + 1), .int .i64 4]) := Lib.hid (by simp [rdV, rd, htop, hc, hu]; omega)
  clear hcell hr hv hm' htop
  rw [List.length_cons, List.length_cons] at *
  generalize u.length = n at *
  have hs : (n : Int) + 1 + 1 < 4 := by omega
  have KK2 := Lib.hid (fun z : Int => (show Kp (fun _ => False) w ((w.alloc (.cells #[.int .i64 0, .int .i64 0, .bool false, .int .i64 0] 28)).alloc (.cells #[.int .i64 (↑x / 64), .int .i64 (↑x % 32), .bool m, .int .i64 z] 28)).drew from ((((Kp.refl _ _).alloc _).alloc _).drew)))
  clear hc
  go_enter Tryd.func15, Tryd.ntmps15
  go_wp2_with fail
  go_region
  go_wp2_with fail
  refine (rkind_any _ _ _ _).mono ?_
  rintro e w2 ⟨rfl, rfl⟩
  rw [HK.out]
  go_wp2_with fail
  refine bodyPost_ret (v := .tuple #[hdV hd0, .int .i64 ((n : Int) + 1 + 1), .int .i64 4]) (by simp [results, Tryd.results15, go_sem, hdV, hd0]) rfl ⟨by rw [HR.out], KK2.out _⟩

set_option maxRecDepth 100000 in
set_option maxHeartbeats 1600000 in
theorem rread_short3 (w : World) (ok : Nat → Prop) (b c : UInt8) (u : List UInt8) (hc : c.toNat = 131) (hu : u.length < 3) (v : Value) (hv : BR w ok v (b :: c :: u)) (_hl : (b :: c :: u).length ≤ 140737488351232) (htop : topB b = true) :
    Calls Tryd.prog 15 #[v] w fun e w' => e = .returned (rdV (b :: c :: u)) ∧ Kp (fun _ => False) w w' := by
  obtain ⟨A, cp, rfl, hlc, hr⟩ := id hv
  obtain ⟨g, off, rfl, hok, -⟩ := hr.byte (k := 0) (by simp)
  have hcell : ∀ k (hk : k < (b :: c :: u).length), w.cell? ⟨g, off + k, none⟩ = some (.int .u8 ((b :: c :: u)[k].toNat : Int)) := by
    intro k hk
    obtain ⟨g', off', e', _, h⟩ := hr.byte hk
    simp only [Option.some.injEq, Addr.mk.injEq, and_true] at e'
    obtain ⟨rfl, rfl⟩ := e'
    exact h
  obtain ⟨x, hx⟩ : ∃ x : Nat, b.toNat = x := ⟨_, rfl⟩
  obtain ⟨m, hm'⟩ : ∃ m, (x / 32 % 2 == 1) = m := ⟨_, rfl⟩
  have hlt := b.toNat_lt
  rw [hx] at hlt
  have c0 : w.cell? ⟨g, off, none⟩ = some (.int .u8 x) := by have := hcell 0 (by (try simp); (try omega)); first | (simp [*]; done) | simpa [*] using this
  have d0 : ∀ o, (w.alloc o).cell? ⟨g, off, none⟩ = some (.int .u8 x) := fun o => ((Kp.refl (fun _ => False) w).alloc o).cell c0 (fun h => h)
  have e0 : ∀ o1 o2, ((w.alloc o1).alloc o2).cell? ⟨g, off, none⟩ = some (.int .u8 x) := fun o1 o2 => (((Kp.refl (fun _ => False) w).alloc o1).alloc o2).cell c0 (fun h => h)
  have c1 : w.cell? ⟨g, off + 1, none⟩ = some (.int .u8 131) := by have := hcell 1 (by (try simp); (try omega)); first | (simp [*]; done) | simpa [*] using this
  have d1 : ∀ o, (w.alloc o).cell? ⟨g, off + 1, none⟩ = some (.int .u8 131) := fun o => ((Kp.refl (fun _ => False) w).alloc o).cell c1 (fun h => h)
  have e1 : ∀ o1 o2, ((w.alloc o1).alloc o2).cell? ⟨g, off + 1, none⟩ = some (.int .u8 131) := fun o1 o2 => (((Kp.refl (fun _ => False) w).alloc o1).alloc o2).cell c1 (fun h => h)
  have hm : ((x : Int) / 32 % 2 == 1) = m := by rw [← hm']; rcases Nat.mod_two_eq_zero_or_one (x / 32) with h | h <;> simp [h] <;> omega
  have HK : Hid (kindB (x / 64) (x % 32) m = true) := Lib.hid (by simpa [topB, hx, hm'] using htop)
  have KK : Hid (Kp (fun _ => False) w ((w.alloc (.cells #[.int .i64 0, .int .i64 0, .bool false, .int .i64 0] 28)).alloc (.cells #[.int .i64 (↑x / 64), .int .i64 (↑x % 32), .bool m, .int .i64 0] 28)).drew) := Lib.hid ((((Kp.refl _ _).alloc _).alloc _).drew)
  have HR : Hid (rdV (b :: c :: u) = .tuple #[hdV hd0, .int .i64 ((u.length : Int) + 1 + 1), .int .i64 4]) := Lib.hid (by simp [rdV, rd, htop, hc, hu]; omega)
  clear hcell hr hv hm' htop
  rw [List.length_cons, List.length_cons] at *
  generalize u.length = n at *
  have hs : (n : Int) + 1 + 1 < 5 := by omega
  have KK2 := Lib.hid (fun z : Int => (show Kp (fun _ => False) w ((w.alloc (.cells #[.int .i64 0, .int .i64 0, .bool false, .int .i64 0] 28)).alloc (.cells #[.int .i64 (↑x / 64), .int .i64 (↑x % 32), .bool m, .int .i64 z] 28)).drew from ((((Kp.refl _ _).alloc _).alloc _).drew)))
  clear hc
  go_enter Tryd.func15, Tryd.ntmps15
  go_wp2_with fail
  go_region
  go_wp2_with fail
  refine (rkind_any _ _ _ _).mono ?_
  rintro e w2 ⟨rfl, rfl⟩
  rw [HK.out]
  go_wp2_with fail
  refine bodyPost_ret (v := .tuple #[hdV hd0, .int .i64 ((n : Int) + 1 + 1), .int .i64 4]) (by simp [results, Tryd.results15, go_sem, hdV, hd0]) rfl ⟨by rw [HR.out], KK2.out _⟩

set_option maxRecDepth 100000 in
set_option maxHeartbeats 1600000 in
theorem rread_small (w : World) (ok : Nat → Prop) (b c : UInt8) (u : List UInt8) (hc : c.toNat < 128) (v : Value) (hv : BR w ok v (b :: c :: u)) (hl : (b :: c :: u).length ≤ 140737488351232) (htop : topB b = true) :
    Calls Tryd.prog 15 #[v] w fun e w' => e = .returned (rdV (b :: c :: u)) ∧ Kp (fun _ => False) w w' := by
  obtain ⟨A, cp, rfl, hlc, hr⟩ := id hv
  obtain ⟨g, off, rfl, hok, -⟩ := hr.byte (k := 0) (by simp)
  have hcell : ∀ k (hk : k < (b :: c :: u).length), w.cell? ⟨g, off + k, none⟩ = some (.int .u8 ((b :: c :: u)[k].toNat : Int)) := by
    intro k hk
    obtain ⟨g', off', e', _, h⟩ := hr.byte hk
    simp only [Option.some.injEq, Addr.mk.injEq, and_true] at e'
    obtain ⟨rfl, rfl⟩ := e'
    exact h
  obtain ⟨x, hx⟩ : ∃ x : Nat, b.toNat = x := ⟨_, rfl⟩
  obtain ⟨m, hm'⟩ : ∃ m, (x / 32 % 2 == 1) = m := ⟨_, rfl⟩
  have hlt := b.toNat_lt
  rw [hx] at hlt
  obtain ⟨y, hy⟩ : ∃ y : Nat, c.toNat = y := ⟨_, rfl⟩
  rw [hy] at hc
  have c0 : w.cell? ⟨g, off, none⟩ = some (.int .u8 x) := by have := hcell 0 (by (try simp); (try omega)); first | (simp [*]; done) | simpa [*] using this
  have d0 : ∀ o, (w.alloc o).cell? ⟨g, off, none⟩ = some (.int .u8 x) := fun o => ((Kp.refl (fun _ => False) w).alloc o).cell c0 (fun h => h)
  have e0 : ∀ o1 o2, ((w.alloc o1).alloc o2).cell? ⟨g, off, none⟩ = some (.int .u8 x) := fun o1 o2 => (((Kp.refl (fun _ => False) w).alloc o1).alloc o2).cell c0 (fun h => h)
  have c1 : w.cell? ⟨g, off + 1, none⟩ = some (.int .u8 y) := by have := hcell 1 (by (try simp); (try omega)); first | (simp [*]; done) | simpa [*] using this
  have d1 : ∀ o, (w.alloc o).cell? ⟨g, off + 1, none⟩ = some (.int .u8 y) := fun o => ((Kp.refl (fun _ => False) w).alloc o).cell c1 (fun h => h)
  have e1 : ∀ o1 o2, ((w.alloc o1).alloc o2).cell? ⟨g, off + 1, none⟩ = some (.int .u8 y) := fun o1 o2 => (((Kp.refl (fun _ => False) w).alloc o1).alloc o2).cell c1 (fun h => h)
  have hm : ((x : Int) / 32 % 2 == 1) = m := by rw [← hm']; rcases Nat.mod_two_eq_zero_or_one (x / 32) with h | h <;> simp [h] <;> omega
  have HK : Hid (kindB (x / 64) (x % 32) m = true) := Lib.hid (by simpa [topB, hx, hm'] using htop)
  have KK : Hid (Kp (fun _ => False) w ((w.alloc (.cells #[.int .i64 0, .int .i64 0, .bool false, .int .i64 0] 28)).alloc (.cells #[.int .i64 (↑x / 64), .int .i64 (↑x % 32), .bool m, .int .i64 0] 28)).drew) := Lib.hid ((((Kp.refl _ _).alloc _).alloc _).drew)
  have HR : Hid (rdV (b :: c :: u) = .tuple #[hdV (↑x / 64, ↑x % 32, m, ↑y), .int .i64 2, .int .i64 0]) := Lib.hid (by simp [rdV, rd, htop, hy, hc, hdB, hx, hm'])
  have hpt : pt (↑x / 64) (↑x % 32) m (y : Int) = ([b, c], 0) := by
    have h := pt_top htop y (by omega)
    rw [hx, hm'] at h
    rw [h, lenB, if_pos hc, ← hy]
    simp
  have hkin : kindB (x / 64) (x % 32) m = true := HK.out
  have hput := fun W => rput_any W (↑x / 64) (↑x % 32) m y hkin (by omega)
  unfold RPutP at hput
  simp only [hpt, List.length_cons, List.length_nil, Nat.reduceAdd] at hput
  have HPut := Lib.hid hput
  clear hpt hkin hput
  clear hcell hr hv hm' htop
  rw [List.length_cons, List.length_cons] at *
  generalize u.length = n at *
  have hq2 : ((y : Int) == 128) = false := by simp; omega
  have KK2 := Lib.hid (fun z : Int => (show Kp (fun _ => False) w ((w.alloc (.cells #[.int .i64 0, .int .i64 0, .bool false, .int .i64 0] 28)).alloc (.cells #[.int .i64 (↑x / 64), .int .i64 (↑x % 32), .bool m, .int .i64 z] 28)).drew from ((((Kp.refl _ _).alloc _).alloc _).drew)))
  go_enter Tryd.func15, Tryd.ntmps15
  go_wp2_with fail
  go_region
  go_wp2_with fail
  refine (rkind_any _ _ _ _).mono ?_
  rintro e w2 ⟨rfl, rfl⟩
  rw [HK.out]
  go_wp2_with fail
  refine (HPut.out _).mono ?_
  rintro e w3 ⟨A3, cp3, rfl, hb3, hk3⟩
  have KW : Kp (fun _ => False) w w3 := (KK2.out y).then_ hk3 (fun _ h => h.elim)
  have bres := (((Blk.new w 28 #[.int .i64 0, .int .i64 0, .bool false, .int .i64 0]).alloc (.cells #[.int .i64 (↑x / 64), .int .i64 (↑x % 32), .bool m, .int .i64 ↑y] 28)).drew).kp hk3 (fun h => h)
  have bh := ((Blk.new (w.alloc (.cells #[.int .i64 0, .int .i64 0, .bool false, .int .i64 0] 28)) 28 #[.int .i64 (↑x / 64), .int .i64 (↑x % 32), .bool m, .int .i64 ↑y]).drew).kp hk3 (fun h => h)
  simp only [World.size_alloc] at bh
  replace c0 := KW.cell c0 (fun h => h)
  replace c1 := KW.cell c1 (fun h => h)
  clear hk3 d0 e0 d1 e1
  obtain ⟨A', cp', e, -, hrd⟩ := hb3
  injection e with e1 e2 e3
  subst e1 e3
  obtain ⟨g3, off3, rfl, -, -⟩ := hrd.byte (k := 0) (by simp)
  have hcell3 : ∀ k (hk : k < ([b, c]).length), w3.cell? ⟨g3, off3 + k, none⟩ = some (.int .u8 (([b, c])[k].toNat : Int)) := by
    intro k hk
    obtain ⟨g', off', e', _, h⟩ := hrd.byte hk
    simp only [Option.some.injEq, Addr.mk.injEq, and_true] at e'
    obtain ⟨rfl, rfl⟩ := e'
    exact h
  have o0 : w3.cell? ⟨g3, off3, none⟩ = some (.int .u8 x) := (hcell3 0 (by (try simp); (try omega))).trans (congrArg (fun t : Nat => some (Value.int .u8 (t : Int))) hx)
  have o1 : w3.cell? ⟨g3, off3 + 1, none⟩ = some (.int .u8 y) := (hcell3 1 (by (try simp); (try omega))).trans (congrArg (fun t : Nat => some (Value.int .u8 (t : Int))) hy)
  clear hcell3 hrd
  obtain ⟨r0, r1, r2, r3⟩ := cells4 bres
  obtain ⟨h0, h1, h2, h3⟩ := cells4 bh
  have f0 := bres.frozen 0
  have f1 := bres.frozen 1
  have f2 := bres.frozen 2
  have f3 := bres.frozen 3
  have q0 : decide ((n : Int) + 1 + 1 ≤ 0) = false := decide_eq_false (by omega)
  have q1 : decide ((n : Int) + 1 + 1 ≤ 1) = false := decide_eq_false (by omega)
  go_wp2_with fail
  refine wp_loop_rounds 3 ?_
  rw [rounds_succ]
  go_wp2_with fail
  go_quiet (fail)
  go_wp2_with fail
  rw [rounds_succ]
  go_wp2_with fail
  go_quiet (fail)
  go_wp2_with fail
  rw [rounds_succ]
  go_wp2_with fail
  have bf : ∀ q, Blk (((((w3.drewN q).setCell ⟨w.heap.size, 0, none⟩ (.int .i64 (↑x / 64))).setCell ⟨w.heap.size, 1, none⟩ (.int .i64 (↑x % 32))).setCell ⟨w.heap.size, 2, none⟩ (.bool m)).setCell ⟨w.heap.size, 3, none⟩ (.int .i64 ↑y)) w.heap.size 28 #[.int .i64 (↑x / 64), .int .i64 (↑x % 32), .bool m, .int .i64 ↑y] := fun q => ((((bres.drewN q).set_ 0 _).set_ 1 _).set_ 2 _).set_ 3 _
  have p0 := fun q => (cells4 (bf q)).1
  have p1 := fun q => (cells4 (bf q)).2.1
  have p2 := fun q => (cells4 (bf q)).2.2.1
  have p3 := fun q => (cells4 (bf q)).2.2.2
  refine bodyPost_ret (v := .tuple #[.agg #[.int .i64 (↑x / 64), .int .i64 (↑x % 32), .bool m, .int .i64 ↑y], .int .i64 2, .int .i64 0]) (by simp [results, Tryd.results15, go_sem, p0, p1, p2, p3]) rfl ⟨by rw [HR.out]; rfl, ?_⟩
  repeat (first | exact KW | refine Kp.setCell ?_ (.inr (by simp)) _ | apply Kp.drewN | apply Kp.drew)

end Go.Proofs.YtjdfgjlbmbiihaaDoor
