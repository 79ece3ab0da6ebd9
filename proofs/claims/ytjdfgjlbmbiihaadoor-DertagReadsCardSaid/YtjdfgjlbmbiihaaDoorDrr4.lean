/-
  The document's Read of layer 9 (part 4).
-/
import Derived.Test.YtjdfgjlbmbiihaaDoorDrr1
namespace Go.Proofs.YtjdfgjlbmbiihaaDoor
open Go.RowKit

set_option maxRecDepth 100000 in
set_option maxHeartbeats 1600000 in
theorem rread_ok3 (w : World) (ok : Nat → Prop) (b c p2 p3 p4 : UInt8) (r : List UInt8) (hc : c.toNat = 131) (hq : 128 ≤ be [p2, p3, p4] ∧ be [p2, p3, p4] / 256 ^ 2 ≠ 0) (v : Value) (hv : BR w ok v (b :: c :: p2 :: p3 :: p4 :: r)) (hl : (b :: c :: p2 :: p3 :: p4 :: r).length ≤ 140737488351232) (htop : topB b = true) :
    Calls Tryd.prog 15 #[v] w fun e w' => e = .returned (rdV (b :: c :: p2 :: p3 :: p4 :: r)) ∧ Kp (fun _ => False) w w' := by
  obtain ⟨A, cp, rfl, hlc, hr⟩ := id hv
  obtain ⟨g, off, rfl, hok, -⟩ := hr.byte (k := 0) (by simp)
  have hcell : ∀ k (hk : k < (b :: c :: p2 :: p3 :: p4 :: r).length), w.cell? ⟨g, off + k, none⟩ = some (.int .u8 ((b :: c :: p2 :: p3 :: p4 :: r)[k].toNat : Int)) := by
    intro k hk
    obtain ⟨g', off', e', _, h⟩ := hr.byte hk
    simp only [Option.some.injEq, Addr.mk.injEq, and_true] at e'
    obtain ⟨rfl, rfl⟩ := e'
    exact h
  obtain ⟨x, hx⟩ : ∃ x : Nat, b.toNat = x := ⟨_, rfl⟩
  obtain ⟨m, hm'⟩ : ∃ m, (x / 32 % 2 == 1) = m := ⟨_, rfl⟩
  have hlt := b.toNat_lt
  rw [hx] at hlt
  obtain ⟨x2, hx2⟩ : ∃ x : Nat, p2.toNat = x := ⟨_, rfl⟩
  have lx2 := p2.toNat_lt
  rw [hx2] at lx2
  obtain ⟨x3, hx3⟩ : ∃ x : Nat, p3.toNat = x := ⟨_, rfl⟩
  have lx3 := p3.toNat_lt
  rw [hx3] at lx3
  obtain ⟨x4, hx4⟩ : ∃ x : Nat, p4.toNat = x := ⟨_, rfl⟩
  have lx4 := p4.toNat_lt
  rw [hx4] at lx4
  obtain ⟨y1, hy1⟩ : ∃ y : Nat, x2 * 256 + x3 = y := ⟨_, rfl⟩
  have g1 : (256 : Int) * (x2 : Int) + (x3 : Int) = (y1 : Int) := by omega
  obtain ⟨y2, hy2⟩ : ∃ y : Nat, y1 * 256 + x4 = y := ⟨_, rfl⟩
  have g2 : (256 : Int) * (y1 : Int) + (x4 : Int) = (y2 : Int) := by omega
  have c0 : w.cell? ⟨g, off, none⟩ = some (.int .u8 x) := by have := hcell 0 (by (try simp); (try omega)); first | (simp [*]; done) | simpa [*] using this
  have d0 : ∀ o, (w.alloc o).cell? ⟨g, off, none⟩ = some (.int .u8 x) := fun o => ((Kp.refl (fun _ => False) w).alloc o).cell c0 (fun h => h)
  have e0 : ∀ o1 o2, ((w.alloc o1).alloc o2).cell? ⟨g, off, none⟩ = some (.int .u8 x) := fun o1 o2 => (((Kp.refl (fun _ => False) w).alloc o1).alloc o2).cell c0 (fun h => h)
  have c1 : w.cell? ⟨g, off + 1, none⟩ = some (.int .u8 131) := by have := hcell 1 (by (try simp); (try omega)); first | (simp [*]; done) | simpa [*] using this
  have d1 : ∀ o, (w.alloc o).cell? ⟨g, off + 1, none⟩ = some (.int .u8 131) := fun o => ((Kp.refl (fun _ => False) w).alloc o).cell c1 (fun h => h)
  have e1 : ∀ o1 o2, ((w.alloc o1).alloc o2).cell? ⟨g, off + 1, none⟩ = some (.int .u8 131) := fun o1 o2 => (((Kp.refl (fun _ => False) w).alloc o1).alloc o2).cell c1 (fun h => h)
  have c2 : w.cell? ⟨g, off + 2, none⟩ = some (.int .u8 x2) := by have := hcell 2 (by (try simp); (try omega)); first | (simp [*]; done) | simpa [*] using this
  have d2 : ∀ o, (w.alloc o).cell? ⟨g, off + 2, none⟩ = some (.int .u8 x2) := fun o => ((Kp.refl (fun _ => False) w).alloc o).cell c2 (fun h => h)
  have e2 : ∀ o1 o2, ((w.alloc o1).alloc o2).cell? ⟨g, off + 2, none⟩ = some (.int .u8 x2) := fun o1 o2 => (((Kp.refl (fun _ => False) w).alloc o1).alloc o2).cell c2 (fun h => h)
  have c3 : w.cell? ⟨g, off + 3, none⟩ = some (.int .u8 x3) := by have := hcell 3 (by (try simp); (try omega)); first | (simp [*]; done) | simpa [*] using this
  have d3 : ∀ o, (w.alloc o).cell? ⟨g, off + 3, none⟩ = some (.int .u8 x3) := fun o => ((Kp.refl (fun _ => False) w).alloc o).cell c3 (fun h => h)
  have e3 : ∀ o1 o2, ((w.alloc o1).alloc o2).cell? ⟨g, off + 3, none⟩ = some (.int .u8 x3) := fun o1 o2 => (((Kp.refl (fun _ => False) w).alloc o1).alloc o2).cell c3 (fun h => h)
  have c4 : w.cell? ⟨g, off + 4, none⟩ = some (.int .u8 x4) := by have := hcell 4 (by (try simp); (try omega)); first | (simp [*]; done) | simpa [*] using this
  have d4 : ∀ o, (w.alloc o).cell? ⟨g, off + 4, none⟩ = some (.int .u8 x4) := fun o => ((Kp.refl (fun _ => False) w).alloc o).cell c4 (fun h => h)
  have e4 : ∀ o1 o2, ((w.alloc o1).alloc o2).cell? ⟨g, off + 4, none⟩ = some (.int .u8 x4) := fun o1 o2 => (((Kp.refl (fun _ => False) w).alloc o1).alloc o2).cell c4 (fun h => h)
  have hm : ((x : Int) / 32 % 2 == 1) = m := by rw [← hm']; rcases Nat.mod_two_eq_zero_or_one (x / 32) with h | h <;> simp [h] <;> omega
  have HK : Hid (kindB (x / 64) (x % 32) m = true) := Lib.hid (by simpa [topB, hx, hm'] using htop)
  have KK : Hid (Kp (fun _ => False) w ((w.alloc (.cells #[.int .i64 0, .int .i64 0, .bool false, .int .i64 0] 28)).alloc (.cells #[.int .i64 (↑x / 64), .int .i64 (↑x % 32), .bool m, .int .i64 0] 28)).drew) := Lib.hid ((((Kp.refl _ _).alloc _).alloc _).drew)
  have hbe : be [p2, p3, p4] = y2 := by simp [be, hx2, hx3, hx4]; omega
  have htk : be ((p2 :: p3 :: p4 :: r).take 3) = y2 := by rw [show (p2 :: p3 :: p4 :: r).take 3 = [p2, p3, p4] from rfl]; exact hbe
  have hq1 := hq
  rw [hbe] at hq1
  have hkin : kindB (x / 64) (x % 32) m = true := HK.out
  have hLm : y2 ≤ 16777215 := by omega
  have hput := fun W => rput_any W (↑x / 64) (↑x % 32) m y2 hkin hLm
  have hpt0 := pt_top htop y2 hLm
  rw [hx, hm'] at hpt0
  have HR : Hid (rdV (b :: c :: p2 :: p3 :: p4 :: r) = .tuple #[hdV (↑x / 64, ↑x % 32, m, ↑y2), .int .i64 5, .int .i64 0]) := Lib.hid (by rw [rdV, rd_long (k := 3) htop hc (by omega) (by omega) (by simp) htk, if_neg (by omega)]; simp [hdB, hx, hm'])
  have hlb : lenB y2 = c :: [p2, p3, p4] := by
    have h := beB_be [p2, p3, p4]
    rw [hbe] at h
    have hcc : c = 131 := UInt8.toNat_inj.1 (by rw [hc]; rfl)
    rw [lenB, hcc]
    rw [if_neg (by omega), if_neg (by omega), if_neg (by omega)]
    exact congrArg _ h
  rw [hlb] at hpt0
  unfold RPutP at hput
  simp only [hpt0, List.length_cons, List.length_nil, Nat.reduceAdd] at hput
  have HPut := Lib.hid hput
  clear hput hpt0 hlb hkin htk hbe hLm hq hq1
  clear hcell hr hv hm' htop
  simp only [List.length_cons] at hlc hl ⊢
  generalize r.length = n at *
  have KK2 := Lib.hid (fun z : Int => (show Kp (fun _ => False) w ((w.alloc (.cells #[.int .i64 0, .int .i64 0, .bool false, .int .i64 0] 28)).alloc (.cells #[.int .i64 (↑x / 64), .int .i64 (↑x % 32), .bool m, .int .i64 z] 28)).drew.drew.drew.drew from ((((Kp.refl _ _).alloc _).alloc _).drew.drew.drew.drew)))
  go_enter Tryd.func15, Tryd.ntmps15
  go_wp2_with fail
  go_region
  go_wp2_with fail
  refine (rkind_any _ _ _ _).mono ?_
  rintro e w2 ⟨rfl, rfl⟩
  rw [HK.out]
  go_wp2_with fail
  refine wp_loop_rounds 4 ?_
  rw [rounds_succ]
  go_wp2_with fail
  go_region
  go_wp2_with fail
  rw [rounds_succ]
  go_wp2_with fail
  go_region
  go_wp2_with fail
  rw [rounds_succ]
  go_wp2_with fail
  go_region
  go_wp2_with fail
  rw [rounds_succ]
  go_wp2_with fail
  refine (HPut.out _).mono ?_
  rintro e w3 ⟨A3, cp3, rfl, hb3, hk3⟩
  have KW : Kp (fun _ => False) w w3 := (KK2.out y2).then_ hk3 (fun _ h => h.elim)
  have bres := (((Blk.new w 28 #[.int .i64 0, .int .i64 0, .bool false, .int .i64 0]).alloc (.cells #[.int .i64 (↑x / 64), .int .i64 (↑x % 32), .bool m, .int .i64 ↑y2] 28)).drew.drew.drew.drew).kp hk3 (fun h => h)
  have bh := ((Blk.new (w.alloc (.cells #[.int .i64 0, .int .i64 0, .bool false, .int .i64 0] 28)) 28 #[.int .i64 (↑x / 64), .int .i64 (↑x % 32), .bool m, .int .i64 ↑y2]).drew.drew.drew.drew).kp hk3 (fun h => h)
  simp only [World.size_alloc] at bh
  replace c0 := KW.cell c0 (fun h => h)
  replace c1 := KW.cell c1 (fun h => h)
  replace c2 := KW.cell c2 (fun h => h)
  replace c3 := KW.cell c3 (fun h => h)
  replace c4 := KW.cell c4 (fun h => h)
  clear hk3 d0 e0 d1 e1 d2 e2 d3 e3 d4 e4
  obtain ⟨A', cp', e, -, hrd⟩ := hb3
  injection e with e1 e2 e3
  subst e1 e3
  obtain ⟨g3, off3, rfl, -, -⟩ := hrd.byte (k := 0) (by simp)
  have hcell3 : ∀ k (hk : k < (b :: c :: [p2, p3, p4]).length), w3.cell? ⟨g3, off3 + k, none⟩ = some (.int .u8 ((b :: c :: [p2, p3, p4])[k].toNat : Int)) := by
    intro k hk
    obtain ⟨g', off', e', _, h⟩ := hrd.byte hk
    simp only [Option.some.injEq, Addr.mk.injEq, and_true] at e'
    obtain ⟨rfl, rfl⟩ := e'
    exact h
  have o0 : w3.cell? ⟨g3, off3, none⟩ = some (.int .u8 x) := (hcell3 0 (by (try simp); (try omega))).trans (congrArg (fun t : Nat => some (Value.int .u8 (t : Int))) hx)
  have o1 : w3.cell? ⟨g3, off3 + 1, none⟩ = some (.int .u8 131) := (hcell3 1 (by (try simp); (try omega))).trans (congrArg (fun t : Nat => some (Value.int .u8 (t : Int))) hc)
  have o2 : w3.cell? ⟨g3, off3 + 2, none⟩ = some (.int .u8 x2) := (hcell3 2 (by (try simp); (try omega))).trans (congrArg (fun t : Nat => some (Value.int .u8 (t : Int))) hx2)
  have o3 : w3.cell? ⟨g3, off3 + 3, none⟩ = some (.int .u8 x3) := (hcell3 3 (by (try simp); (try omega))).trans (congrArg (fun t : Nat => some (Value.int .u8 (t : Int))) hx3)
  have o4 : w3.cell? ⟨g3, off3 + 4, none⟩ = some (.int .u8 x4) := (hcell3 4 (by (try simp); (try omega))).trans (congrArg (fun t : Nat => some (Value.int .u8 (t : Int))) hx4)
  clear hcell3 hrd
  obtain ⟨r0, r1, r2, r3⟩ := cells4 bres
  obtain ⟨h0, h1, h2, h3⟩ := cells4 bh
  have f0 := bres.frozen 0
  have f1 := bres.frozen 1
  have f2 := bres.frozen 2
  have f3 := bres.frozen 3
  have q0 : decide ((n : Int) + 1 + 1 + 1 + 1 + 1 ≤ 0) = false := decide_eq_false (by omega)
  have q1 : decide ((n : Int) + 1 + 1 + 1 + 1 + 1 ≤ 1) = false := decide_eq_false (by omega)
  have q2 : decide ((n : Int) + 1 + 1 + 1 + 1 + 1 ≤ 2) = false := decide_eq_false (by omega)
  have q3 : decide ((n : Int) + 1 + 1 + 1 + 1 + 1 ≤ 3) = false := decide_eq_false (by omega)
  have q4 : decide ((n : Int) + 1 + 1 + 1 + 1 + 1 ≤ 4) = false := decide_eq_false (by omega)
  go_wp2_with fail
  refine wp_loop_rounds 6 ?_
  rw [rounds_succ]
  go_wp2_with fail
  go_quiet (fail)
  go_wp2_with fail
  rw [rounds_succ]
  go_wp2_with fail
  go_quiet (fail)
  go_wp2_with fail
  rw [rounds_succ]
  go_wp2_with fail
  go_quiet (fail)
  go_wp2_with fail
  rw [rounds_succ]
  go_wp2_with fail
  go_quiet (fail)
  go_wp2_with fail
  rw [rounds_succ]
  go_wp2_with fail
  go_quiet (fail)
  go_wp2_with fail
  rw [rounds_succ]
  go_wp2_with fail
  have bf : ∀ q, Blk (((((w3.drewN q).setCell ⟨w.heap.size, 0, none⟩ (.int .i64 (↑x / 64))).setCell ⟨w.heap.size, 1, none⟩ (.int .i64 (↑x % 32))).setCell ⟨w.heap.size, 2, none⟩ (.bool m)).setCell ⟨w.heap.size, 3, none⟩ (.int .i64 ↑y2)) w.heap.size 28 #[.int .i64 (↑x / 64), .int .i64 (↑x % 32), .bool m, .int .i64 ↑y2] := fun q => ((((bres.drewN q).set_ 0 _).set_ 1 _).set_ 2 _).set_ 3 _
  have p0 := fun q => (cells4 (bf q)).1
  have p1 := fun q => (cells4 (bf q)).2.1
  have p2 := fun q => (cells4 (bf q)).2.2.1
  have p3 := fun q => (cells4 (bf q)).2.2.2
  refine bodyPost_ret (v := .tuple #[.agg #[.int .i64 (↑x / 64), .int .i64 (↑x % 32), .bool m, .int .i64 ↑y2], .int .i64 5, .int .i64 0]) (by simp [results, Tryd.results15, go_sem, p0, p1, p2, p3]) rfl ⟨by rw [HR.out]; rfl, ?_⟩
  repeat (first | exact KW | refine Kp.setCell ?_ (.inr (by simp)) _ | apply Kp.drewN | apply Kp.drew)

set_option maxRecDepth 100000 in
set_option maxHeartbeats 1600000 in
theorem rread_low3 (w : World) (ok : Nat → Prop) (b c p2 p3 p4 : UInt8) (r : List UInt8) (hc : c.toNat = 131) (hq : be [p2, p3, p4] < 128 ∨ be [p2, p3, p4] / 256 ^ 2 = 0) (v : Value) (hv : BR w ok v (b :: c :: p2 :: p3 :: p4 :: r)) (hl : (b :: c :: p2 :: p3 :: p4 :: r).length ≤ 140737488351232) (htop : topB b = true) :
    Calls Tryd.prog 15 #[v] w fun e w' => e = .returned (rdV (b :: c :: p2 :: p3 :: p4 :: r)) ∧ Kp (fun _ => False) w w' := by
  obtain ⟨A, cp, rfl, hlc, hr⟩ := id hv
  obtain ⟨g, off, rfl, hok, -⟩ := hr.byte (k := 0) (by simp)
  have hcell : ∀ k (hk : k < (b :: c :: p2 :: p3 :: p4 :: r).length), w.cell? ⟨g, off + k, none⟩ = some (.int .u8 ((b :: c :: p2 :: p3 :: p4 :: r)[k].toNat : Int)) := by
    intro k hk
    obtain ⟨g', off', e', _, h⟩ := hr.byte hk
    simp only [Option.some.injEq, Addr.mk.injEq, and_true] at e'
    obtain ⟨rfl, rfl⟩ := e'
    exact h
  obtain ⟨x, hx⟩ : ∃ x : Nat, b.toNat = x := ⟨_, rfl⟩
  obtain ⟨m, hm'⟩ : ∃ m, (x / 32 % 2 == 1) = m := ⟨_, rfl⟩
  have hlt := b.toNat_lt
  rw [hx] at hlt
  obtain ⟨x2, hx2⟩ : ∃ x : Nat, p2.toNat = x := ⟨_, rfl⟩
  have lx2 := p2.toNat_lt
  rw [hx2] at lx2
  obtain ⟨x3, hx3⟩ : ∃ x : Nat, p3.toNat = x := ⟨_, rfl⟩
  have lx3 := p3.toNat_lt
  rw [hx3] at lx3
  obtain ⟨x4, hx4⟩ : ∃ x : Nat, p4.toNat = x := ⟨_, rfl⟩
  have lx4 := p4.toNat_lt
  rw [hx4] at lx4
  obtain ⟨y1, hy1⟩ : ∃ y : Nat, x2 * 256 + x3 = y := ⟨_, rfl⟩
  have g1 : (256 : Int) * (x2 : Int) + (x3 : Int) = (y1 : Int) := by omega
  obtain ⟨y2, hy2⟩ : ∃ y : Nat, y1 * 256 + x4 = y := ⟨_, rfl⟩
  have g2 : (256 : Int) * (y1 : Int) + (x4 : Int) = (y2 : Int) := by omega
  have c0 : w.cell? ⟨g, off, none⟩ = some (.int .u8 x) := by have := hcell 0 (by (try simp); (try omega)); first | (simp [*]; done) | simpa [*] using this
  have d0 : ∀ o, (w.alloc o).cell? ⟨g, off, none⟩ = some (.int .u8 x) := fun o => ((Kp.refl (fun _ => False) w).alloc o).cell c0 (fun h => h)
  have e0 : ∀ o1 o2, ((w.alloc o1).alloc o2).cell? ⟨g, off, none⟩ = some (.int .u8 x) := fun o1 o2 => (((Kp.refl (fun _ => False) w).alloc o1).alloc o2).cell c0 (fun h => h)
  have c1 : w.cell? ⟨g, off + 1, none⟩ = some (.int .u8 131) := by have := hcell 1 (by (try simp); (try omega)); first | (simp [*]; done) | simpa [*] using this
  have d1 : ∀ o, (w.alloc o).cell? ⟨g, off + 1, none⟩ = some (.int .u8 131) := fun o => ((Kp.refl (fun _ => False) w).alloc o).cell c1 (fun h => h)
  have e1 : ∀ o1 o2, ((w.alloc o1).alloc o2).cell? ⟨g, off + 1, none⟩ = some (.int .u8 131) := fun o1 o2 => (((Kp.refl (fun _ => False) w).alloc o1).alloc o2).cell c1 (fun h => h)
  have c2 : w.cell? ⟨g, off + 2, none⟩ = some (.int .u8 x2) := by have := hcell 2 (by (try simp); (try omega)); first | (simp [*]; done) | simpa [*] using this
  have d2 : ∀ o, (w.alloc o).cell? ⟨g, off + 2, none⟩ = some (.int .u8 x2) := fun o => ((Kp.refl (fun _ => False) w).alloc o).cell c2 (fun h => h)
  have e2 : ∀ o1 o2, ((w.alloc o1).alloc o2).cell? ⟨g, off + 2, none⟩ = some (.int .u8 x2) := fun o1 o2 => (((Kp.refl (fun _ => False) w).alloc o1).alloc o2).cell c2 (fun h => h)
  have c3 : w.cell? ⟨g, off + 3, none⟩ = some (.int .u8 x3) := by have := hcell 3 (by (try simp); (try omega)); first | (simp [*]; done) | simpa [*] using this
  have d3 : ∀ o, (w.alloc o).cell? ⟨g, off + 3, none⟩ = some (.int .u8 x3) := fun o => ((Kp.refl (fun _ => False) w).alloc o).cell c3 (fun h => h)
  have e3 : ∀ o1 o2, ((w.alloc o1).alloc o2).cell? ⟨g, off + 3, none⟩ = some (.int .u8 x3) := fun o1 o2 => (((Kp.refl (fun _ => False) w).alloc o1).alloc o2).cell c3 (fun h => h)
  have c4 : w.cell? ⟨g, off + 4, none⟩ = some (.int .u8 x4) := by have := hcell 4 (by (try simp); (try omega)); first | (simp [*]; done) | simpa [*] using this
  have d4 : ∀ o, (w.alloc o).cell? ⟨g, off + 4, none⟩ = some (.int .u8 x4) := fun o => ((Kp.refl (fun _ => False) w).alloc o).cell c4 (fun h => h)
  have e4 : ∀ o1 o2, ((w.alloc o1).alloc o2).cell? ⟨g, off + 4, none⟩ = some (.int .u8 x4) := fun o1 o2 => (((Kp.refl (fun _ => False) w).alloc o1).alloc o2).cell c4 (fun h => h)
  have hm : ((x : Int) / 32 % 2 == 1) = m := by rw [← hm']; rcases Nat.mod_two_eq_zero_or_one (x / 32) with h | h <;> simp [h] <;> omega
  have HK : Hid (kindB (x / 64) (x % 32) m = true) := Lib.hid (by simpa [topB, hx, hm'] using htop)
  have KK : Hid (Kp (fun _ => False) w ((w.alloc (.cells #[.int .i64 0, .int .i64 0, .bool false, .int .i64 0] 28)).alloc (.cells #[.int .i64 (↑x / 64), .int .i64 (↑x % 32), .bool m, .int .i64 0] 28)).drew) := Lib.hid ((((Kp.refl _ _).alloc _).alloc _).drew)
  have hbe : be [p2, p3, p4] = y2 := by simp [be, hx2, hx3, hx4]; omega
  have htk : be ((p2 :: p3 :: p4 :: r).take 3) = y2 := by rw [show (p2 :: p3 :: p4 :: r).take 3 = [p2, p3, p4] from rfl]; exact hbe
  have hq1 := hq
  rw [hbe] at hq1
  have hkin : kindB (x / 64) (x % 32) m = true := HK.out
  have hLm : y2 ≤ 16777215 := by omega
  have hput := fun W => rput_any W (↑x / 64) (↑x % 32) m y2 hkin hLm
  have hpt0 := pt_top htop y2 hLm
  rw [hx, hm'] at hpt0
  have HR : Hid (rdV (b :: c :: p2 :: p3 :: p4 :: r) = .tuple #[hdV hd0, .int .i64 1, .int .i64 13]) := Lib.hid (by rw [rdV, rd_long (k := 3) htop hc (by omega) (by omega) (by simp) htk, if_pos hq1])
  obtain ⟨o, rest, hlb, ho⟩ : ∃ o rest, lenB y2 = o :: rest ∧ o.toNat ≠ 131 := by
    rw [lenB]
    split
    · exact ⟨_, _, rfl, by rw [UInt8.toNat_ofNat']; omega⟩
    split
    · exact ⟨_, _, rfl, by decide⟩
    split
    · exact ⟨_, _, rfl, by decide⟩
    omega
  rw [hlb] at hpt0
  unfold RPutP at hput
  simp only [hpt0, List.length_cons] at hput
  have HPut := Lib.hid hput
  clear hput hpt0 hlb hkin htk hbe hLm hq hq1
  obtain ⟨z, hz⟩ : ∃ z : Nat, o.toNat = z := ⟨_, rfl⟩
  rw [hz] at ho
  have hzne : ((z : Int) != 131) = true := by simp; omega
  clear hcell hr hv hm' htop
  simp only [List.length_cons] at hlc hl ⊢
  generalize r.length = n at *
  have KK2 := Lib.hid (fun z : Int => (show Kp (fun _ => False) w ((w.alloc (.cells #[.int .i64 0, .int .i64 0, .bool false, .int .i64 0] 28)).alloc (.cells #[.int .i64 (↑x / 64), .int .i64 (↑x % 32), .bool m, .int .i64 z] 28)).drew.drew.drew.drew from ((((Kp.refl _ _).alloc _).alloc _).drew.drew.drew.drew)))
  go_enter Tryd.func15, Tryd.ntmps15
  go_wp2_with fail
  go_region
  go_wp2_with fail
  refine (rkind_any _ _ _ _).mono ?_
  rintro e w2 ⟨rfl, rfl⟩
  rw [HK.out]
  go_wp2_with fail
  refine wp_loop_rounds 4 ?_
  rw [rounds_succ]
  go_wp2_with fail
  go_region
  go_wp2_with fail
  rw [rounds_succ]
  go_wp2_with fail
  go_region
  go_wp2_with fail
  rw [rounds_succ]
  go_wp2_with fail
  go_region
  go_wp2_with fail
  rw [rounds_succ]
  go_wp2_with fail
  refine (HPut.out _).mono ?_
  rintro e w3 ⟨A3, cp3, rfl, hb3, hk3⟩
  have KW : Kp (fun _ => False) w w3 := (KK2.out y2).then_ hk3 (fun _ h => h.elim)
  have bres := (((Blk.new w 28 #[.int .i64 0, .int .i64 0, .bool false, .int .i64 0]).alloc (.cells #[.int .i64 (↑x / 64), .int .i64 (↑x % 32), .bool m, .int .i64 ↑y2] 28)).drew.drew.drew.drew).kp hk3 (fun h => h)
  have bh := ((Blk.new (w.alloc (.cells #[.int .i64 0, .int .i64 0, .bool false, .int .i64 0] 28)) 28 #[.int .i64 (↑x / 64), .int .i64 (↑x % 32), .bool m, .int .i64 ↑y2]).drew.drew.drew.drew).kp hk3 (fun h => h)
  simp only [World.size_alloc] at bh
  replace c0 := KW.cell c0 (fun h => h)
  replace c1 := KW.cell c1 (fun h => h)
  clear hk3 d0 e0 d1 e1 d2 e2 d3 e3 d4 e4
  obtain ⟨A', cp', e, -, hrd⟩ := hb3
  injection e with e1 e2 e3
  subst e1 e3
  obtain ⟨g3, off3, rfl, -, -⟩ := hrd.byte (k := 0) (by simp)
  have hcell3 : ∀ k (hk : k < (b :: o :: rest).length), w3.cell? ⟨g3, off3 + k, none⟩ = some (.int .u8 ((b :: o :: rest)[k].toNat : Int)) := by
    intro k hk
    obtain ⟨g', off', e', _, h⟩ := hrd.byte hk
    simp only [Option.some.injEq, Addr.mk.injEq, and_true] at e'
    obtain ⟨rfl, rfl⟩ := e'
    exact h
  have o0 : w3.cell? ⟨g3, off3, none⟩ = some (.int .u8 x) := (hcell3 0 (by (try simp); (try omega))).trans (congrArg (fun t : Nat => some (Value.int .u8 (t : Int))) hx)
  have o1 : w3.cell? ⟨g3, off3 + 1, none⟩ = some (.int .u8 z) := (hcell3 1 (by (try simp); (try omega))).trans (congrArg (fun t : Nat => some (Value.int .u8 (t : Int))) hz)
  clear hcell3 hrd
  obtain ⟨r0, r1, r2, r3⟩ := cells4 bres
  obtain ⟨h0, h1, h2, h3⟩ := cells4 bh
  have f0 := bres.frozen 0
  have f1 := bres.frozen 1
  have f2 := bres.frozen 2
  have f3 := bres.frozen 3
  generalize rest.length = q at *
  have q0 : decide ((n : Int) + 1 + 1 + 1 + 1 + 1 ≤ 0) = false := decide_eq_false (by omega)
  have q1 : decide ((n : Int) + 1 + 1 + 1 + 1 + 1 ≤ 1) = false := decide_eq_false (by omega)
  go_wp2_with fail
  refine wp_loop_rounds 2 ?_
  rw [rounds_succ]
  go_wp2_with fail
  go_quiet (fail)
  go_wp2_with fail
  rw [rounds_succ]
  go_wp2_with fail
  go_quiet (fail)
  go_wp2_with fail
  have bf : ∀ q, Blk (((((w3.drewN q).setCell ⟨w.heap.size, 0, none⟩ (.int .i64 0)).setCell ⟨w.heap.size, 1, none⟩ (.int .i64 0)).setCell ⟨w.heap.size, 2, none⟩ (.bool false)).setCell ⟨w.heap.size, 3, none⟩ (.int .i64 0)) w.heap.size 28 #[.int .i64 0, .int .i64 0, .bool false, .int .i64 0] := fun q => ((((bres.drewN q).set_ 0 _).set_ 1 _).set_ 2 _).set_ 3 _
  have p0 := fun q => (cells4 (bf q)).1
  have p1 := fun q => (cells4 (bf q)).2.1
  have p2 := fun q => (cells4 (bf q)).2.2.1
  have p3 := fun q => (cells4 (bf q)).2.2.2
  refine bodyPost_ret (v := .tuple #[.agg #[.int .i64 0, .int .i64 0, .bool false, .int .i64 0], .int .i64 1, .int .i64 13]) (by simp [results, Tryd.results15, go_sem, p0, p1, p2, p3]) rfl ⟨by rw [HR.out]; rfl, ?_⟩
  repeat (first | exact KW | refine Kp.setCell ?_ (.inr (by simp)) _ | apply Kp.drewN | apply Kp.drew)

end Go.Proofs.YtjdfgjlbmbiihaaDoor
