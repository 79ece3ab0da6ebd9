/-
  dertag.Read: what it answers, of any bytes (part 3).
-/
import Derived.Test.YtjdfgjlbmbiihaaDoorDr1
namespace Go.Proofs.YtjdfgjlbmbiihaaDoor
open Go.RowKit

set_option maxRecDepth 100000 in
set_option maxHeartbeats 1600000 in
theorem read_ok3 (w : World) (ok : Nat → Prop) (b c p2 p3 p4 : UInt8) (r : List UInt8) (hc : c.toNat = 131) (hq : 128 ≤ be [p2, p3, p4] ∧ be [p2, p3, p4] / 256 ^ 2 ≠ 0) (v : Value) (hv : BR w ok v (b :: c :: p2 :: p3 :: p4 :: r)) (htab : Tab w) (hl : (b :: c :: p2 :: p3 :: p4 :: r).length ≤ 140737488355328) (htop : topB b = true) :
    Calls Tryd.prog 14 #[v] w fun e w' => e = .returned (rdV (b :: c :: p2 :: p3 :: p4 :: r)) ∧ Kp (fun _ => False) w w' := by
  obtain ⟨A, cp, rfl, hlc, hr⟩ := id hv
  obtain ⟨g, off, rfl, hok, -⟩ := hr.byte (k := 0) (by simp)
  have hcell : ∀ k (hk : k < (b :: c :: p2 :: p3 :: p4 :: r).length), w.cell? ⟨g, off + k, none⟩ = some (.int .u8 ((b :: c :: p2 :: p3 :: p4 :: r)[k].toNat : Int)) := by
    intro k hk
    obtain ⟨g', off', e', _, h⟩ := hr.byte hk
    simp only [Option.some.injEq, Addr.mk.injEq, and_true] at e'
    obtain ⟨rfl, rfl⟩ := e'
    exact h
  obtain ⟨x, hx⟩ : ∃ x : Nat, b.toNat = x := ⟨_, rfl⟩
  obtain ⟨m, hm'⟩ : ∃ m, (x / 32 % 2 == 1) = m := ⟨_, rfl⟩
  have hlt := b.toNat_lt
  rw [hx] at hlt
  obtain ⟨x2, hx2⟩ : ∃ x : Nat, p2.toNat = x := ⟨_, rfl⟩
  have lx2 := p2.toNat_lt
  rw [hx2] at lx2
  obtain ⟨x3, hx3⟩ : ∃ x : Nat, p3.toNat = x := ⟨_, rfl⟩
  have lx3 := p3.toNat_lt
  rw [hx3] at lx3
  obtain ⟨x4, hx4⟩ : ∃ x : Nat, p4.toNat = x := ⟨_, rfl⟩
  have lx4 := p4.toNat_lt
  rw [hx4] at lx4
  have o2 : bits .or .i64 0 (x2 : Int) = x2 := by have := i64_or_byte 0 x2 (by omega) (by omega); simpa using this
  obtain ⟨y1, hy1⟩ : ∃ y : Nat, x2 * 256 + x3 = y := ⟨_, rfl⟩
  have o3 : bits .or .i64 ((x2 : Int) * 256) (x3 : Int) = y1 := by rw [i64_or_byte _ _ (by omega) (by omega), hy1]
  obtain ⟨y2, hy2⟩ : ∃ y : Nat, y1 * 256 + x4 = y := ⟨_, rfl⟩
  have o4 : bits .or .i64 ((y1 : Int) * 256) (x4 : Int) = y2 := by rw [i64_or_byte _ _ (by omega) (by omega), hy2]
  have c0 : w.cell? ⟨g, off, none⟩ = some (.int .u8 x) := by have := hcell 0 (by (try simp); (try omega)); first | (simp [*]; done) | simpa [*] using this
  have d0 : ∀ o, (w.alloc o).cell? ⟨g, off, none⟩ = some (.int .u8 x) := fun o => ((Kp.refl (fun _ => False) w).alloc o).cell c0 (fun h => h)
  have e0 : ∀ o1 o2, ((w.alloc o1).alloc o2).cell? ⟨g, off, none⟩ = some (.int .u8 x) := fun o1 o2 => (((Kp.refl (fun _ => False) w).alloc o1).alloc o2).cell c0 (fun h => h)
  have c1 : w.cell? ⟨g, off + 1, none⟩ = some (.int .u8 131) := by have := hcell 1 (by (try simp); (try omega)); first | (simp [*]; done) | simpa [*] using this
  have d1 : ∀ o, (w.alloc o).cell? ⟨g, off + 1, none⟩ = some (.int .u8 131) := fun o => ((Kp.refl (fun _ => False) w).alloc o).cell c1 (fun h => h)
  have e1 : ∀ o1 o2, ((w.alloc o1).alloc o2).cell? ⟨g, off + 1, none⟩ = some (.int .u8 131) := fun o1 o2 => (((Kp.refl (fun _ => False) w).alloc o1).alloc o2).cell c1 (fun h => h)
  have c2 : w.cell? ⟨g, off + 2, none⟩ = some (.int .u8 x2) := by have := hcell 2 (by (try simp); (try omega)); first | (simp [*]; done) | simpa [*] using this
  have d2 : ∀ o, (w.alloc o).cell? ⟨g, off + 2, none⟩ = some (.int .u8 x2) := fun o => ((Kp.refl (fun _ => False) w).alloc o).cell c2 (fun h => h)
  have e2 : ∀ o1 o2, ((w.alloc o1).alloc o2).cell? ⟨g, off + 2, none⟩ = some (.int .u8 x2) := fun o1 o2 => (((Kp.refl (fun _ => False) w).alloc o1).alloc o2).cell c2 (fun h => h)
  have c3 : w.cell? ⟨g, off + 3, none⟩ = some (.int .u8 x3) := by have := hcell 3 (by (try simp); (try omega)); first | (simp [*]; done) | simpa [*] using this
  have d3 : ∀ o, (w.alloc o).cell? ⟨g, off + 3, none⟩ = some (.int .u8 x3) := fun o => ((Kp.refl (fun _ => False) w).alloc o).cell c3 (fun h => h)
  have e3 : ∀ o1 o2, ((w.alloc o1).alloc o2).cell? ⟨g, off + 3, none⟩ = some (.int .u8 x3) := fun o1 o2 => (((Kp.refl (fun _ => False) w).alloc o1).alloc o2).cell c3 (fun h => h)
  have c4 : w.cell? ⟨g, off + 4, none⟩ = some (.int .u8 x4) := by have := hcell 4 (by (try simp); (try omega)); first | (simp [*]; done) | simpa [*] using this
  have d4 : ∀ o, (w.alloc o).cell? ⟨g, off + 4, none⟩ = some (.int .u8 x4) := fun o => ((Kp.refl (fun _ => False) w).alloc o).cell c4 (fun h => h)
  have e4 : ∀ o1 o2, ((w.alloc o1).alloc o2).cell? ⟨g, off + 4, none⟩ = some (.int .u8 x4) := fun o1 o2 => (((Kp.refl (fun _ => False) w).alloc o1).alloc o2).cell c4 (fun h => h)
  have hm : decide (0 < bits .and .u8 (x : Int) 32) = m := by rw [u8_bit5 x hlt]; exact hm'
  have HK : Hid (kindB (x / 64) (x % 32) m = true) := Lib.hid (by simpa [topB, hx, hm'] using htop)
  have KK : Hid (Kp (fun _ => False) w ((w.alloc (.cells #[.int .i64 0, .int .i64 0, .bool false, .int .i64 0] 24)).alloc (.cells #[.int .i64 (↑x / 64), .int .i64 (↑x % 32), .bool m, .int .i64 0] 24)).drew) := Lib.hid ((((Kp.refl _ _).alloc _).alloc _).drew)
  have KS0 : ∀ z : Int, Kp (fun _ => False) w ((w.alloc (.cells #[.int .i64 (↑x / 64), .int .i64 (↑x % 32), .bool m, .int .i64 z] 24)).alloc (.cells #[.int .i64 (↑x / 64), .int .i64 (↑x % 32), .bool m, .int .i64 z] 24)).drew := fun z => ((((Kp.refl _ _).alloc _).alloc _).drew)
  have KS := Lib.hid KS0
  clear KS0
  have KT := Lib.hid (fun z : Int => (show Kp (fun _ => False) w ((w.alloc (.cells #[.int .i64 0, .int .i64 0, .bool false, .int .i64 0] 24)).alloc (.cells #[.int .i64 (↑x / 64), .int .i64 (↑x % 32), .bool m, .int .i64 z] 24)).drew from ((((Kp.refl _ _).alloc _).alloc _).drew)))
  have hbe : be [p2, p3, p4] = y2 := by simp [be, hx2, hx3, hx4]; omega
  have htk : be ((p2 :: p3 :: p4 :: r).take 3) = y2 := by rw [show (p2 :: p3 :: p4 :: r).take 3 = [p2, p3, p4] from rfl]; exact hbe
  have hq1 := hq
  rw [hbe] at hq1
  have HR : Hid (rdV (b :: c :: p2 :: p3 :: p4 :: r) = .tuple #[hdV (↑x / 64, ↑x % 32, m, ↑y2), .int .i64 5, .int .i64 0]) := Lib.hid (by rw [rdV, rd_long (k := 3) htop hc (by omega) (by omega) (by simp) htk, if_neg (by omega)]; simp [hdB, hx, hm'])
  have hmask : bits .and .u8 131 127 = 3 := by decide
  clear htk hbe hc
  clear hcell hr hv hm' hx htop
  simp only [List.length_cons] at hlc hl ⊢
  generalize r.length = n at *
  have hd1 : ¬ (y2 : Int) < 128 := by omega
  have hd2 : ((y2 : Int) / 65536 == 0) = false := by simp; omega
  clear hq hq1
  go_enter Tryd.func14, Tryd.ntmps14
  go_wp2_with fail
  go_region
  go_wp2_with fail
  refine (kind_any _ _ _ _ (htab.kp KK.out)).mono ?_
  rintro e w2 ⟨rfl, rfl⟩
  rw [if_pos HK.out]
  go_wp2_with fail
  refine wp_loop_rounds 4 ?_
  iterate 4 (rw [rounds_succ]; go_wp2_with fail)
  refine bodyPost_ret (v := .tuple #[hdV (↑x / 64, ↑x % 32, m, ↑y2), .int .i64 5, .int .i64 0]) (by simp [results, Tryd.results14, go_sem, hdV]) rfl ⟨by rw [HR.out], KS.out y2⟩

set_option maxRecDepth 100000 in
set_option maxHeartbeats 1600000 in
theorem read_low3 (w : World) (ok : Nat → Prop) (b c p2 p3 p4 : UInt8) (r : List UInt8) (hc : c.toNat = 131) (hq : be [p2, p3, p4] < 128 ∨ be [p2, p3, p4] / 256 ^ 2 = 0) (v : Value) (hv : BR w ok v (b :: c :: p2 :: p3 :: p4 :: r)) (htab : Tab w) (hl : (b :: c :: p2 :: p3 :: p4 :: r).length ≤ 140737488355328) (htop : topB b = true) :
    Calls Tryd.prog 14 #[v] w fun e w' => e = .returned (rdV (b :: c :: p2 :: p3 :: p4 :: r)) ∧ Kp (fun _ => False) w w' := by
  obtain ⟨A, cp, rfl, hlc, hr⟩ := id hv
  obtain ⟨g, off, rfl, hok, -⟩ := hr.byte (k := 0) (by simp)
  have hcell : ∀ k (hk : k < (b :: c :: p2 :: p3 :: p4 :: r).length), w.cell? ⟨g, off + k, none⟩ = some (.int .u8 ((b :: c :: p2 :: p3 :: p4 :: r)[k].toNat : Int)) := by
    intro k hk
    obtain ⟨g', off', e', _, h⟩ := hr.byte hk
    simp only [Option.some.injEq, Addr.mk.injEq, and_true] at e'
    obtain ⟨rfl, rfl⟩ := e'
    exact h
  obtain ⟨x, hx⟩ : ∃ x : Nat, b.toNat = x := ⟨_, rfl⟩
  obtain ⟨m, hm'⟩ : ∃ m, (x / 32 % 2 == 1) = m := ⟨_, rfl⟩
  have hlt := b.toNat_lt
  rw [hx] at hlt
  obtain ⟨x2, hx2⟩ : ∃ x : Nat, p2.toNat = x := ⟨_, rfl⟩
  have lx2 := p2.toNat_lt
  rw [hx2] at lx2
  obtain ⟨x3, hx3⟩ : ∃ x : Nat, p3.toNat = x := ⟨_, rfl⟩
  have lx3 := p3.toNat_lt
  rw [hx3] at lx3
  obtain ⟨x4, hx4⟩ : ∃ x : Nat, p4.toNat = x := ⟨_, rfl⟩
  have lx4 := p4.toNat_lt
  rw [hx4] at lx4
  have o2 : bits .or .i64 0 (x2 : Int) = x2 := by have := i64_or_byte 0 x2 (by omega) (by omega); simpa using this
  obtain ⟨y1, hy1⟩ : ∃ y : Nat, x2 * 256 + x3 = y := ⟨_, rfl⟩
  have o3 : bits .or .i64 ((x2 : Int) * 256) (x3 : Int) = y1 := by rw [i64_or_byte _ _ (by omega) (by omega), hy1]
  obtain ⟨y2, hy2⟩ : ∃ y : Nat, y1 * 256 + x4 = y := ⟨_, rfl⟩
  have o4 : bits .or .i64 ((y1 : Int) * 256) (x4 : Int) = y2 := by rw [i64_or_byte _ _ (by omega) (by omega), hy2]
  have c0 : w.cell? ⟨g, off, none⟩ = some (.int .u8 x) := by have := hcell 0 (by (try simp); (try omega)); first | (simp [*]; done) | simpa [*] using this
  have d0 : ∀ o, (w.alloc o).cell? ⟨g, off, none⟩ = some (.int .u8 x) := fun o => ((Kp.refl (fun _ => False) w).alloc o).cell c0 (fun h => h)
  have e0 : ∀ o1 o2, ((w.alloc o1).alloc o2).cell? ⟨g, off, none⟩ = some (.int .u8 x) := fun o1 o2 => (((Kp.refl (fun _ => False) w).alloc o1).alloc o2).cell c0 (fun h => h)
  have c1 : w.cell? ⟨g, off + 1, none⟩ = some (.int .u8 131) := by have := hcell 1 (by (try simp); (try omega)); first | (simp [*]; done) | simpa [*] using this
  have d1 : ∀ o, (w.alloc o).cell? ⟨g, off + 1, none⟩ = some (.int .u8 131) := fun o => ((Kp.refl (fun _ => False) w).alloc o).cell c1 (fun h => h)
  have e1 : ∀ o1 o2, ((w.alloc o1).alloc o2).cell? ⟨g, off + 1, none⟩ = some (.int .u8 131) := fun o1 o2 => (((Kp.refl (fun _ => False) w).alloc o1).alloc o2).cell c1 (fun h => h)
  have c2 : w.cell? ⟨g, off + 2, none⟩ = some (.int .u8 x2) := by have := hcell 2 (by (try simp); (try omega)); first | (simp [*]; done) | simpa [*] using this
  have d2 : ∀ o, (w.alloc o).cell? ⟨g, off + 2, none⟩ = some (.int .u8 x2) := fun o => ((Kp.refl (fun _ => False) w).alloc o).cell c2 (fun h => h)
  have e2 : ∀ o1 o2, ((w.alloc o1).alloc o2).cell? ⟨g, off + 2, none⟩ = some (.int .u8 x2) := fun o1 o2 => (((Kp.refl (fun _ => False) w).alloc o1).alloc o2).cell c2 (fun h => h)
  have c3 : w.cell? ⟨g, off + 3, none⟩ = some (.int .u8 x3) := by have := hcell 3 (by (try simp); (try omega)); first | (simp [*]; done) | simpa [*] using this
  have d3 : ∀ o, (w.alloc o).cell? ⟨g, off + 3, none⟩ = some (.int .u8 x3) := fun o => ((Kp.refl (fun _ => False) w).alloc o).cell c3 (fun h => h)
  have e3 : ∀ o1 o2, ((w.alloc o1).alloc o2).cell? ⟨g, off + 3, none⟩ = some (.int .u8 x3) := fun o1 o2 => (((Kp.refl (fun _ => False) w).alloc o1).alloc o2).cell c3 (fun h => h)
  have c4 : w.cell? ⟨g, off + 4, none⟩ = some (.int .u8 x4) := by have := hcell 4 (by (try simp); (try omega)); first | (simp [*]; done) | simpa [*] using this
  have d4 : ∀ o, (w.alloc o).cell? ⟨g, off + 4, none⟩ = some (.int .u8 x4) := fun o => ((Kp.refl (fun _ => False) w).alloc o).cell c4 (fun h => h)
  have e4 : ∀ o1 o2, ((w.alloc o1).alloc o2).cell? ⟨g, off + 4, none⟩ = some (.int .u8 x4) := fun o1 o2 => (((Kp.refl (fun _ => False) w).alloc o1).alloc o2).cell c4 (fun h => h)
  have hm : decide (0 < bits .and .u8 (x : Int) 32) = m := by rw [u8_bit5 x hlt]; exact hm'
  have HK : Hid (kindB (x / 64) (x % 32) m = true) := Lib.hid (by simpa [topB, hx, hm'] using htop)
  have KK : Hid (Kp (fun _ => False) w ((w.alloc (.cells #[.int .i64 0, .int .i64 0, .bool false, .int .i64 0] 24)).alloc (.cells #[.int .i64 (↑x / 64), .int .i64 (↑x % 32), .bool m, .int .i64 0] 24)).drew) := Lib.hid ((((Kp.refl _ _).alloc _).alloc _).drew)
  have KS0 : ∀ z : Int, Kp (fun _ => False) w ((w.alloc (.cells #[.int .i64 (↑x / 64), .int .i64 (↑x % 32), .bool m, .int .i64 z] 24)).alloc (.cells #[.int .i64 (↑x / 64), .int .i64 (↑x % 32), .bool m, .int .i64 z] 24)).drew := fun z => ((((Kp.refl _ _).alloc _).alloc _).drew)
  have KS := Lib.hid KS0
  clear KS0
  have KT := Lib.hid (fun z : Int => (show Kp (fun _ => False) w ((w.alloc (.cells #[.int .i64 0, .int .i64 0, .bool false, .int .i64 0] 24)).alloc (.cells #[.int .i64 (↑x / 64), .int .i64 (↑x % 32), .bool m, .int .i64 z] 24)).drew from ((((Kp.refl _ _).alloc _).alloc _).drew)))
  have hbe : be [p2, p3, p4] = y2 := by simp [be, hx2, hx3, hx4]; omega
  have htk : be ((p2 :: p3 :: p4 :: r).take 3) = y2 := by rw [show (p2 :: p3 :: p4 :: r).take 3 = [p2, p3, p4] from rfl]; exact hbe
  have hq1 := hq
  rw [hbe] at hq1
  have HR : Hid (rdV (b :: c :: p2 :: p3 :: p4 :: r) = .tuple #[hdV hd0, .int .i64 1, .int .i64 13]) := Lib.hid (by rw [rdV, rd_long (k := 3) htop hc (by omega) (by omega) (by simp) htk, if_pos hq1])
  have hmask : bits .and .u8 131 127 = 3 := by decide
  clear htk hbe hc
  clear hcell hr hv hm' hx htop
  simp only [List.length_cons] at hlc hl ⊢
  generalize r.length = n at *
  clear hq
  rcases hq1 with hq1 | hq1
  · have hd1 : (y2 : Int) < 128 := by omega
    clear hq1
    go_enter Tryd.func14, Tryd.ntmps14
    go_wp2_with fail
    go_region
    go_wp2_with fail
    refine (kind_any _ _ _ _ (htab.kp KK.out)).mono ?_
    rintro e w2 ⟨rfl, rfl⟩
    rw [if_pos HK.out]
    go_wp2_with fail
    refine wp_loop_rounds 4 ?_
    iterate 4 (rw [rounds_succ]; go_wp2_with fail)
    refine bodyPost_ret (v := .tuple #[hdV hd0, .int .i64 1, .int .i64 13]) (by simp [results, Tryd.results14, go_sem, hdV, hd0]) rfl ⟨by rw [HR.out], KT.out _⟩
  · by_cases hd1 : (y2 : Int) < 128
    · clear hq1
      go_enter Tryd.func14, Tryd.ntmps14
      go_wp2_with fail
      go_region
      go_wp2_with fail
      refine (kind_any _ _ _ _ (htab.kp KK.out)).mono ?_
      rintro e w2 ⟨rfl, rfl⟩
      rw [if_pos HK.out]
      go_wp2_with fail
      refine wp_loop_rounds 4 ?_
      iterate 4 (rw [rounds_succ]; go_wp2_with fail)
      refine bodyPost_ret (v := .tuple #[hdV hd0, .int .i64 1, .int .i64 13]) (by simp [results, Tryd.results14, go_sem, hdV, hd0]) rfl ⟨by rw [HR.out], KT.out _⟩
    · have hd2 : ((y2 : Int) / 65536 == 0) = true := by simp; omega
      clear hq1
      go_enter Tryd.func14, Tryd.ntmps14
      go_wp2_with fail
      go_region
      go_wp2_with fail
      refine (kind_any _ _ _ _ (htab.kp KK.out)).mono ?_
      rintro e w2 ⟨rfl, rfl⟩
      rw [if_pos HK.out]
      go_wp2_with fail
      refine wp_loop_rounds 4 ?_
      iterate 4 (rw [rounds_succ]; go_wp2_with fail)
      refine bodyPost_ret (v := .tuple #[hdV hd0, .int .i64 1, .int .i64 13]) (by simp [results, Tryd.results14, go_sem, hdV, hd0]) rfl ⟨by rw [HR.out], KT.out _⟩


end Go.Proofs.YtjdfgjlbmbiihaaDoor
